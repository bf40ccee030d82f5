/-
  The law of ranks: what a drawn region may do to what was there, while it binds a comparison.
-/
import Derived.Test.YtaoikbpolckobaaGreatDoorSide
import Derived.Test.YtaoikbpolckobaaGreatDoorParL
namespace Go.Proofs.YtaoikbpolckobaaGreatDoor
open Go.RowKit Go.Lib
set_option maxRecDepth 100000

/-- Later: what lay before B is as it was; nodes stay; bound nodes are such still, and those that fit fit still. -/
structure LeT (B : Nat) (Fx : Array Value → Prop) (w w' : World) : Prop where
  os : w'.os = w.os
  tape : w'.tape = w.tape
  out : w'.output = w.output
  size : w.heap.size ≤ w'.heap.size
  old : ∀ i, i < B → i < w.heap.size → w'.heap[i]? = w.heap[i]?
  nd : ∀ g cs, Blk w g cs 31 → Blk w' g cs 31
  row : ∀ g cs, Blk w g cs 36 → cs.size = 9 → ∃ cs', Blk w' g cs' 36 ∧ cs'.size = 9
  keep : ∀ g cs, Blk w g cs 36 → cs.size = 9 → Fx cs → ∃ cs', Blk w' g cs' 36 ∧ cs'.size = 9 ∧ Fx cs'
theorem leT (B : Nat) (Fx : Array Value → Prop) : IsLe (LeT B Fx) :=
  ⟨fun _ => ⟨rfl, rfl, rfl, Nat.le_refl _, fun _ _ _ => rfl, fun _ _ h => h, fun _ cs h hs => ⟨cs, h, hs⟩, fun _ cs h hs hf => ⟨cs, h, hs, hf⟩⟩,
   fun {a b c} h k => ⟨k.os.trans h.os, k.tape.trans h.tape, k.out.trans h.out, Nat.le_trans h.size k.size, fun i h1 h2 => (k.old i h1 (Nat.lt_of_lt_of_le h2 h.size)).trans (h.old i h1 h2), fun g cs hb => k.nd g cs (h.nd g cs hb), fun g cs hb hs => by
      obtain ⟨cs1, h1, h2⟩ := h.row g cs hb hs
      exact k.row g cs1 h1 h2, fun g cs hb hs hf => by
      obtain ⟨cs1, h1, h2, h3⟩ := h.keep g cs hb hs hf
      exact k.keep g cs1 h1 h2 h3⟩,
   fun {a b} h => ⟨h.os, h.tape, h.out, h.size, h.old, h.nd, h.row, h.keep⟩⟩
theorem LeT.ofExt {B : Nat} {Fx : Array Value → Prop} {w w' : World} (h : Ext w w') : LeT B Fx w w' :=
  ⟨h.os, h.tape, h.output, h.size, fun i _ hi => h.block i hi, fun _ _ hb => hb.keep h, fun _ cs hb hs => ⟨cs, hb.keep h, hs⟩, fun _ cs hb hs hf => ⟨cs, hb.keep h, hs, hf⟩⟩
theorem LeT.ext {Fx : Array Value → Prop} {w w' : World} (h : LeT w.heap.size Fx w w') : Ext w w' := ⟨h.os, h.tape, h.out, h.size, fun i hi => h.old i hi hi⟩
theorem LeT.setRow {B g : Nat} {Fx : Array Value → Prop} {w : World} {old cs : Array Value} (hg : Blk w g old 36) (hB : B ≤ g) (hs : cs.size = 9) (hf : Fx cs) : LeT B Fx w (w.setRow g cs) :=
  ⟨rfl, rfl, rfl, by simp, fun i hi _ => setRow_other w g i cs (by omega), fun k ck hb => by
    by_cases he : k = g
    · subst he
      unfold Blk at hg hb
      rw [hg] at hb
      simp at hb
    · exact (setRow_other w g k cs he).trans hb, fun k ck hb hk => by
    by_cases he : k = g
    · subst he
      exact ⟨cs, setRow_heap w k old cs _ _ hg, hs⟩
    · exact ⟨ck, (setRow_other w g k cs he).trans hb, hk⟩, fun k ck hb hk hfk => by
    by_cases he : k = g
    · subst he
      exact ⟨cs, setRow_heap w k old cs _ _ hg, hs, hf⟩
    · exact ⟨ck, (setRow_other w g k cs he).trans hb, hk, hfk⟩⟩
theorem yields_storeT {o : Oper} {ρ : Operand → Value} {w : World} {Y : Value → World → Prop} {x y : Operand} {g : Nat} {old cs : Array Value} (ho : o.op = .store 36 x y) (hx : ρ x = .pointer (some ⟨g, 0, none⟩)) (hy : ρ y = .agg cs) (hg : Blk w g old 36) (hold : old.size = 9) (hcs : cs.size = 9)
    (h1 : cs.all (·.oneCell') = true) (h : Y undef (w.setRow g cs)) : yields Tryz.prog o ρ w Y := by
  have hr := run_storeVar_row (P := Tryz.prog) w g 36 36 old cs hg (by rw [hcs]; kernel_rfl) (by omega) h1
  unfold yields execOp
  simp only [ho, hx, hy, Instr.storeAt, Instr.sureAddr, Sem.run_bind, Sem.run_pure, Result.andThen_ok, hr]
  exact h
/-- The node of one side, told by its block. -/
def SideN (w : World) (d : NdR) (c p : ByteArray) : Prop :=
  (p = ⟨#[]⟩ ∧ d = ndCol c ⟨#[]⟩) ∨ (Known p ∧ ∃ g, d = ⟨11, 0, p, ⟨#[]⟩, 0, some ⟨g, 0, none⟩, 1, 1⟩ ∧ Blk w g (ndCol c ⟨#[]⟩).cells 31)
theorem SideN.le {B : Nat} {Fx : Array Value → Prop} {w w' : World} {d : NdR} {c p : ByteArray} (hs : SideN w d c p) (hl : LeT B Fx w w') : SideN w' d c p := by
  rcases hs with h1 | ⟨hk, g, h2, h3⟩
  · exact .inl h1
  · exact .inr ⟨hk, g, h2, hl.nd g _ h3⟩
theorem SideN.at {w : World} {d : NdR} {c p : ByteArray} (hs : SideN w d c p) : SideAt w d.v c p := by
  rcases hs with ⟨h1, rfl⟩ | ⟨hk, g, rfl, h3⟩
  · exact .inl ⟨h1, rfl⟩
  · exact .inr ⟨hk, g, rfl, NodesAt.ofBlk h3 [ndCol c ⟨#[]⟩] (by simp)⟩
set_option maxHeartbeats 4000000 in
theorem sideN_any (c p : ByteArray) (w : World) (hp : p = ⟨#[]⟩ ∨ Known p) : Calls Tryz.prog 17 #[.string c, .string p] w fun e w' => (∃ d : NdR, e = .returned (.agg d.cells) ∧ SideN w' d c p) ∧ Below w.heap.size w w' := by
  rcases hp with rfl | hk
  · go_enter Tryz.func17, Tryz.ntmps17
    go_wp2_with fail
    go_returns
    exact ⟨⟨ndCol c ⟨#[]⟩, rfl, .inl ⟨rfl, rfl⟩⟩, by go_grown⟩
  · have hne := hk.ne
    have HK := Lib.hid hk
    clear hk
    go_enter Tryz.func17, Tryz.ntmps17
    go_wp2_with fail
    go_returns
    exact ⟨⟨⟨11, 0, p, ⟨#[]⟩, 0, some ⟨w.heap.size + 1 + 1, 0, none⟩, 1, 1⟩, rfl, .inr ⟨HK.out, _, rfl, Blk.new _ _ 31 (by simp)⟩⟩, by go_grown⟩
def isSide (c p : ByteArray) (v : Value) (w : World) : Prop := ∃ d : NdR, v = .agg d.cells ∧ SideN w d c p
def isPair (c p c' p' : ByteArray) (v : Value) (w : World) : Prop := ∃ (g : Nat) (d d' : NdR), v = .slice (some ⟨g, 0, none⟩) 2 2 ∧ Blk w g (d.cells ++ d'.cells) 31 ∧ SideN w d c p ∧ SideN w d' c' p'
def isCmp (c p c' p' : ByteArray) (v : Value) (w : World) : Prop := ∃ (g : Nat) (d d' : NdR), v = .agg #[.int .i64 6, .int .i64 3, .string ⟨#[]⟩, .string ⟨#[]⟩, .int .i64 0, .slice (some ⟨g, 0, none⟩) 2 2] ∧ Blk w g (d.cells ++ d'.cells) 31 ∧ SideN w d c p ∧ SideN w d' c' p'
def isRes (Fx : Array Value → Prop) (e : Int) (v : Value) (_ : World) : Prop := ∃ V : Array Value, v = .tuple #[.agg V, .int .i64 e] ∧ V.size = 9 ∧ V.all (·.oneCell') = true ∧ Fx V
def isVal (Fx : Array Value → Prop) (v : Value) (_ : World) : Prop := ∃ V : Array Value, v = .agg V ∧ V.size = 9 ∧ V.all (·.oneCell') = true ∧ Fx V
def newTy (B : Nat) (v : Value) (w : World) : Prop := ∃ g cs, v = .pointer (some ⟨g, 0, none⟩) ∧ B ≤ g ∧ Blk w g cs 36 ∧ cs.size = 9
def stored (B : Nat) (Fx : Array Value → Prop) (ds : List Value) (_ : Value) (w : World) : Prop := ∃ g cs, ds.head? = some (.pointer (some ⟨g, 0, none⟩)) ∧ B ≤ g ∧ Blk w g cs 36 ∧ cs.size = 9 ∧ Fx cs
/-- A comparison of two sides is bound. -/
theorem exprcmp_any (g c q gl : Nat) (d d' : NdR) (s p s' p' : ByteArray) (x x' : TyR) (w : World) (hF : FldsAt w g fds) (hR : RegAt w q) (hG : Glob w) (hl : Blk w gl (d.cells ++ d'.cells) 31) (hd : SideN w d s p) (hd' : SideN w d' s' p')
    (hx : colV 4 0 s ⟨#[]⟩ none 0 0 fds = .tuple #[tyV x.k x.o x.s x.t x.n (.slice none 0 0) x.ty x.r x.c, .int .i64 0]) (hty : x.ty = 3) (hx' : colV 4 0 s' ⟨#[]⟩ none 0 0 fds = .tuple #[tyV x'.k x'.o x'.s x'.t x'.n (.slice none 0 0) x'.ty x'.r x'.c, .int .i64 0]) (hty' : x'.ty = 3) :
    Calls Tryz.prog 18 #[.agg #[.slice (some ⟨g, 0, none⟩) 7 c], .pointer (some ⟨q, 0, none⟩), ndV 6 3 ⟨#[]⟩ ⟨#[]⟩ 0 (.slice (some ⟨gl, 0, none⟩) 2 2)] w fun e w' => (∃ lp ll lc, e = .returned (nodeV 6 3 ⟨#[]⟩ ⟨#[]⟩ 0 lp ll lc [sideT x p, sideT x' p'] ⟨#[]⟩ 0)) ∧ Below w.heap.size w w' := by
  have hN : NodesAt w (.slice (some ⟨gl, 0, none⟩) 2 2) [d, d'] := NodesAt.ofBlk hl [d, d'] (by simp)
  refine (exprtest_any g c q 3 (some ⟨gl, 0, none⟩) 2 2 [d, d'] [sideT x p, sideT x' p'] w (by decide) (by simp) (by simp) rfl hN (fun W b hW hb j e y he hy => ?_)).mono ?_
  · match j with
    | 0 =>
      simp at he hy
      subst he hy
      exact bnds_side (hd.at.ext hW) hb (hF.ext hW) (hR.ext hW) (hG.keep hW) hx hty
    | 1 =>
      simp at he hy
      subst he hy
      exact bnds_side (hd'.at.ext hW) hb (hF.ext hW) (hR.ext hW) (hG.keep hW) hx' hty'
    | j + 2 => simp at he
  · rintro e w' ⟨⟨lp, ll, lc, rfl, _⟩, hb⟩
    exact ⟨⟨lp, ll, lc, rfl⟩, hb⟩
end Go.Proofs.YtaoikbpolckobaaGreatDoor
