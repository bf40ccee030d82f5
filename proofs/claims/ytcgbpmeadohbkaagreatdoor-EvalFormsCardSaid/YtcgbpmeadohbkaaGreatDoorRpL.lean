import Derived.Test.YtcgbpmeadohbkaaGreatDoorRpK
namespace Go.Proofs.YtcgbpmeadohbkaaGreatDoor
open Go.RowKit Go.Lib
set_option maxRecDepth 100000
def CmpPostR (A : Nat → Prop) (p g cap long : Nat) (T : List Lx.Tok) (r : Tr) (s' : PSt) (w : World) (e : Ending) (w' : World) : Prop := ∃ x : PN, e = .returned x.v ∧ TrAt (fun g => A g ∨ w.heap.size < g) w' x r ∧ RsAt w' p g cap long T s' ∧ LeP p w w'
theorem RsAt.row {w : World} {p g cap long : Nat} {T : List Lx.Tok} {s : PSt} (h : RsAt w p g cap long T s) {x : Nat} (hp : p ≠ x) (hg : g ≠ x) (V : Array Value) : RsAt (w.setRow x V) p g cap long T s :=
 ⟨(setRow_other w x p V hp).trans h.blk, h.tok.ext (setRow_other w x g V hg) (by simp), h.ne, h.le, h.cap, h.few, h.dp⟩
structure Cst (w0 : World) (A : Nat → Prop) (ya : PN) (ta : Tr) (p g cap long : Nat) (T : List Lx.Tok) (s : PSt) (W : World) : Prop where
 rs : RsAt W p g cap long T s
 le : LeP p w0 W
 bx : Blk W w0.heap.size ya.cells 24
 res : Blk W (w0.heap.size + 1) z6 24
 tr : TrAt A W ya ta
 hA : ∀ g, A g → g < w0.heap.size ∧ g ≠ p
 hp : p < w0.heap.size
 hg : g < w0.heap.size
theorem Cst.start {w : World} {A : Nat → Prop} {ya : PN} {ta : Tr} {p g cap long : Nat} {T : List Lx.Tok} {s : PSt} (h : RsAt w p g cap long T s) (hT : TrAt A w ya ta) (hA : ∀ g, A g → g < w.heap.size ∧ g ≠ p) : Cst w A ya ta p g cap long T s ((w.alloc (.cells ya.cells 24)).alloc (.cells z6 24)) :=
 have hx : Ext w ((w.alloc (.cells ya.cells 24)).alloc (.cells z6 24)) := ((Ext.refl w).alloc _).alloc _
 have hx2 : Ext (w.alloc (.cells ya.cells 24)) ((w.alloc (.cells ya.cells 24)).alloc (.cells z6 24)) := (Ext.refl _).alloc _
 ⟨h.ext hx, LeP.ofExt hx, (Blk.new w ya.cells 24 rfl).keep hx2, Blk.new (w.alloc (.cells ya.cells 24)) z6 24 (by simp), hT.later (p := p) (fun g h => (hA g h).2) (LeP.ofExt hx), hA, h.blk.lt, h.tok.1⟩
section
variable {w0 W W' : World} {A : Nat → Prop} {ya : PN} {ta : Tr} {p g cap long : Nat} {T : List Lx.Tok} {s s' : PSt}
theorem Cst.call (h : Cst w0 A ya ta p g cap long T s W) (h1 : RsAt W' p g cap long T s') (h2 : LeP p W W') : Cst w0 A ya ta p g cap long T s' W' :=
 ⟨h1, h.le.trans h2, h2.blk h.bx (Nat.ne_of_gt h.hp), h2.blk h.res (by have := h.hp; omega), h.tr.later (p := p) (fun g k => (h.hA g k).2) h2, h.hA, h.hp, h.hg⟩
theorem Cst.ext (h : Cst w0 A ya ta p g cap long T s W) (hx : Ext W W') : Cst w0 A ya ta p g cap long T s W' := h.call (h.rs.ext hx) (LeP.ofExt hx)
theorem Cst.at (h : Cst w0 A ya ta p g cap long T s W) (i : Nat) (hi : i ≤ T.length) : Cst w0 A ya ta p g cap long T { s with i := i } (W.setCell ⟨p, 1, none⟩ (.int .i64 i)) := h.call (h.rs.at i hi) (LeP.set 1 _)
theorem Cst.store (h : Cst w0 A ya ta p g cap long T s W) {b : Nat} (hb : w0.heap.size + 1 < b) (o : Nat) (v : Value) : Cst w0 A ya ta p g cap long T s (W.setCell ⟨b, o, none⟩ v) :=
 ⟨h.rs.other (by have := h.hp; omega) (by have := h.hg; omega) o v, h.le.other (by omega) o v, h.bx.other (a := ⟨b, o, none⟩) (by show w0.heap.size ≠ b; omega) v, h.res.other (a := ⟨b, o, none⟩) (by show w0.heap.size + 1 ≠ b; omega) v, h.tr.same (fun g k _ => heap_setCell_other W ⟨b, o, none⟩ g v (by have := (h.hA g k).1; show g ≠ b; omega)) (by simp), h.hA, h.hp, h.hg⟩
theorem Cst.row (h : Cst w0 A ya ta p g cap long T s W) {b : Nat} (hb : w0.heap.size + 1 < b) (V : Array Value) : Cst w0 A ya ta p g cap long T s (W.setRow b V) :=
 ⟨h.rs.row (by have := h.hp; omega) (by have := h.hg; omega) V, h.le.row (by omega) V, (setRow_other W b w0.heap.size V (by omega)).trans h.bx, (setRow_other W b (w0.heap.size + 1) V (by omega)).trans h.res, h.tr.row (b := b) (fun g k => by have := (h.hA g k).1; omega) V, h.hA, h.hp, h.hg⟩
theorem Cst.fin (h : Cst w0 A ya ta p g cap long T s W) (x : PN) (r : Tr) (hT : TrAt (fun g => A g ∨ w0.heap.size + 1 < g) W x r) (a b c d e f : Value) : CmpPostR A p g cap long T r s w0 (.returned x.v) ((((((W.setCell ⟨w0.heap.size + 1, 0, none⟩ a).setCell ⟨w0.heap.size + 1, 1, none⟩ b).setCell ⟨w0.heap.size + 1, 2, none⟩ c).setCell ⟨w0.heap.size + 1, 3, none⟩ d).setCell ⟨w0.heap.size + 1, 4, none⟩ e).setCell ⟨w0.heap.size + 1, 5, none⟩ f) :=
 ⟨x, rfl, (hT.set6 (b := w0.heap.size + 1) (fun g k => by
  rcases k with k | k
  ·have := (h.hA g k).1; omega
  ·omega) _ _ _ _ _ _).mono (fun g k _ => by
  rcases k with k | k
  ·exact .inl k
  ·exact .inr (by omega)), h.rs.other6 (by have := h.hp; omega) (by have := h.hg; omega) _ _ _ _ _ _, h.le.other6 (by omega) _ _ _ _ _ _⟩
theorem Cst.finRow (h : Cst w0 A ya ta p g cap long T s W) (x : PN) (r : Tr) (hT : TrAt (fun g => A g ∨ w0.heap.size + 1 < g) W x r) (V : Array Value) : CmpPostR A p g cap long T r s w0 (.returned x.v) (W.setRow (w0.heap.size + 1) V) :=
 ⟨x, rfl, (hT.row (b := w0.heap.size + 1) (fun g k => by
  rcases k with k | k
  ·have := (h.hA g k).1; omega
  ·omega) _).mono (fun g k _ => by
  rcases k with k | k
  ·exact .inl k
  ·exact .inr (by omega)), h.rs.row (by have := h.hp; omega) (by have := h.hg; omega) _, h.le.row (by omega) _⟩
end
theorem yields_pushN {o : Oper} {ρ : Operand → Value} {w : World} {Y : Value → World → Prop} {s x : Operand} (ho : o.op = .call { callee := .builtin .append, args := #[s, x], argTypes := #[22, 22] })
 (B : Nat) (v : Value) (L : List PN) (hs : ρ s = v) (hown : w.ownsRow B 24 6 v L.length (cellsP L)) (b c : Nat) (N : List PN) (hx : ρ x = .slice (some ⟨b, 0, none⟩) N.length c) (hN : ∀ (j : Nat) (u : Value), (cellsP N)[j]? = some u → w.cell? ⟨b, j, none⟩ = some u)
 (hl : L.length + N.length ≤ 100000) (hB : B ≤ w.heap.size)
 (h : ∀ v' w', w'.ownsRow B 24 6 v' (L.length + N.length) (cellsP (L ++ N)) → w.grownBy w' v.ownBlock → (v'.ownBlock = v.ownBlock ∨ v'.ownBlock = some w.heap.size) → Y v' w') : yields Tryz.prog o ρ w Y := by
 obtain ⟨i, hi, hz0, hz1, hz2⟩ := info_parts infoNd
 obtain ⟨v', w', hr, h2, h3, h4, h5⟩ := run_append_own_at (P := Tryz.prog) (w := w) B 22 o.type 24 i _ 6 80 Tryz.underlying22 hi hz0 hz1 hz2 rfl (by decide) v L.length (cellsP L) hown ⟨b, 0, none⟩ N.length c (cellsP N) (cellsP_length N) (fun j u hj => by rw [Addr.add_lit, Nat.zero_add]; exact hN j u hj)
  (fun u hu => by
   simp only [List.mem_flatMap] at hu
   obtain ⟨y, _, hy⟩ := hu
   simp only [PN.cells, List.mem_cons, List.not_mem_nil, or_false] at hy
   rcases hy with rfl | rfl | rfl | rfl | rfl | rfl <;> rfl) (by unfold maxLen; omega) (by omega) hB
 unfold yields execOp
 simp only [ho, resolve, invoke, builtin, Sem.run_bind, Sem.run_pure, Result.andThen_ok, List.map_toArray, List.map_cons, List.map_nil, hs, hx, hr]
 refine h v' w' ?_ h3 h5
 rw [show cellsP (L ++ N) = cellsP L ++ cellsP N by simp [cellsP]]
 exact h2
theorem yields_pushNil {o : Oper} {ρ : Operand → Value} {w : World} {Y : Value → World → Prop} {s x : Operand} (ho : o.op = .call { callee := .builtin .append, args := #[s, x], argTypes := #[22, 22] })
 (b n c : Nat) (hs : ρ s = .slice (some ⟨b, 0, none⟩) n c) (hx : ρ x = .slice none 0 0) (hnc : n ≤ c) (h : Y (.slice (some ⟨b, 0, none⟩) n c) w) : yields Tryz.prog o ρ w Y := by
 obtain ⟨i, hi, hz0, hz1, hz2⟩ := info_parts infoNd
 have hr : (Builtin.append_ #[22, 22] o.type #[.slice (some ⟨b, 0, none⟩) n c, .slice none 0 0]).run Tryz.prog w = .ok (.slice (some ⟨b, 0, none⟩) n c) w := by
  simp [Builtin.append_, run_underlying Tryz.underlying22, sizeOf, typeInfo, hi, Builtin.lenOf, Builtin.firstCells, loadCells, storeCells, hnc]
 unfold yields execOp
 simp only [ho, resolve, invoke, builtin, Sem.run_bind, Sem.run_pure, Result.andThen_ok, List.map_toArray, List.map_cons, List.map_nil, hs, hx, hr]
 exact h
theorem own_blk {w : World} {B gs : Nat} (N : List PN) (hB : B ≤ gs) (hb : Blk w gs (cellsP N).toArray 24) (hl : N.length ≤ 100000) : w.ownsRow B 24 6 (.slice (some ⟨gs, 0, none⟩) N.length N.length) N.length (cellsP N) :=
 ⟨cellsP_length N, .inr ⟨gs, N.length, (cellsP N).toArray, rfl, hB, hb, Nat.le_refl _, by unfold maxLen; omega, by rw [List.size_toArray]; exact cellsP_length N, by rw [List.toList_toArray, ← cellsP_length N, List.take_length]⟩⟩
theorem pnAt_own {w : World} {B : Nat} {v : Value} {L : List PN} (h : w.ownsRow B 24 6 v L.length (cellsP L)) (h0 : 0 < L.length) : ∃ g c, v = .slice (some ⟨g, 0, none⟩) L.length c ∧ B ≤ g ∧ L.length ≤ c ∧ PnAt w g L := by
 have hx := h
 rcases h.2 with ⟨_, h1⟩ | ⟨g, cap, cur, hv, hb, hh, hnc, _, _, htake⟩
 ·omega
 ·subst hv
  refine ⟨g, cap, rfl, hb, hnc, (Array.getElem?_eq_some_iff.1 hh).1, fun i x hi j hj => ?_⟩
  have hil : i < L.length := (List.getElem?_eq_some_iff.1 hi).1
  have h6 : i * 6 + j < (cellsP L).length := by rw [cellsP_length]; omega
  have e1 := hx.cellAt (i * 6 + j) (by rw [cellsP_length] at h6; exact h6)
  rw [e1]
  exact cells6_get L i x hi j hj
theorem Cst.grown {w0 W W' : World} {A : Nat → Prop} {ya : PN} {ta : Tr} {p g cap long : Nat} {T : List Lx.Tok} {s : PSt} (h : Cst w0 A ya ta p g cap long T s W) {b : Nat} (hg : W.grownBy W' (some b)) (hb : w0.heap.size + 1 < b) : Cst w0 A ya ta p g cap long T s W' :=
 ⟨⟨(hg.block p h.rs.blk.lt (fun e => by have := h.hp; have := Option.some.inj e; omega)).trans h.rs.blk, h.rs.tok.ext (hg.block g h.rs.tok.1 (fun e => by have := h.hg; have := Option.some.inj e; omega)) hg.size, h.rs.ne, h.rs.le, h.rs.cap, h.rs.few, h.rs.dp⟩,
  ⟨hg.os.trans h.le.os, hg.tape.trans h.le.tape, hg.output.trans h.le.out, Nat.le_trans h.le.size hg.size, fun i hi hn => (hg.block i (Nat.lt_of_lt_of_le hi h.le.size) (fun e => by have := Option.some.inj e; omega)).trans (h.le.old i hi hn)⟩,
  (hg.block _ h.bx.lt (fun e => by have := Option.some.inj e; omega)).trans h.bx, (hg.block _ h.res.lt (fun e => by have := Option.some.inj e; omega)).trans h.res,
  h.tr.same (fun g k hl => hg.block g hl (fun e => by have := (h.hA g k).1; have := Option.some.inj e; omega)) hg.size, h.hA, h.hp, h.hg⟩
theorem three_kids {A : Nat → Prop} {w : World} {k o n : Int} {s t : List UInt8} {g lc : Nat} {x y z : PN} {a b c : Tr} (hc : 3 ≤ lc) (hg : A g) (hP : PnAt w g [x, y, z]) (hx : TrAt A w x a) (hy : TrAt A w y b) (hz : TrAt A w z c) : TrAt A w ⟨k, o, ⟨s.toArray⟩, ⟨t.toArray⟩, n, some ⟨g, 0, none⟩, 3, lc⟩ (.mk k o s t n [a, b, c]) :=
 .node k o s t n g lc [x, y, z] [a, b, c] rfl (by simp) hc hg hP fun i u v hu hv => by
  have hi : i = 0 ∨ i = 1 ∨ i = 2 := by have := (List.getElem?_eq_some_iff.1 hu).1; simp at this; omega
  rcases hi with rfl | rfl | rfl
  ·obtain rfl := Option.some.inj hu
   obtain rfl := Option.some.inj hv
   exact hx
  ·obtain rfl := Option.some.inj hu
   obtain rfl := Option.some.inj hv
   exact hy
  ·obtain rfl := Option.some.inj hu
   obtain rfl := Option.some.inj hv
   exact hz
theorem cons_kids {A : Nat → Prop} {w : World} {k o n : Int} {s t : List UInt8} {g lc m : Nat} {x : PN} {L : List PN} {a : Tr} {l : List Tr} (hm : m = (a :: l).length) (hl : L.length = l.length) (hc : m ≤ lc) (hg : A g) (hP : PnAt w g (x :: L)) (hx : TrAt A w x a) (hL : ∀ (i : Nat) (u : PN) (v : Tr), L[i]? = some u → l[i]? = some v → TrAt A w u v) : TrAt A w ⟨k, o, ⟨s.toArray⟩, ⟨t.toArray⟩, n, some ⟨g, 0, none⟩, m, lc⟩ (.mk k o s t n (a :: l)) := by
 subst hm
 refine .node k o s t n g lc (x :: L) (a :: l) (by simp [hl]) (by simp) hc hg hP fun i u v hu hv => ?_
 cases i with
 | zero =>
  obtain rfl := Option.some.inj hu
  obtain rfl := Option.some.inj hv
  exact hx
 | succ i => exact hL i u v (by simpa using hu) (by simpa using hv)
theorem KidsIn.weak {B C : Nat} {W : World} {v : Value} {L : List PN} {out : List Tr} (h : KidsIn B W v L out) (hC : C ≤ B) : KidsIn C W v L out := by
 refine ⟨h.len, ⟨h.own.1, ?_⟩, fun i x y h1 h2 => (h.tr i x y h1 h2).mono fun g hg _ => ⟨by omega, hg.2⟩⟩
 rcases h.own.2 with h1 | ⟨g, cap, cur, h1, h2, h3⟩
 ·exact .inl h1
 ·exact .inr ⟨g, cap, cur, h1, by omega, h3⟩
def oneR (n0 : Nat) (m : Tr) (v : Value) (w : World) : Prop := ∃ (gs : Nat) (y : PN), v = .slice (some ⟨gs, 0, none⟩) 1 1 ∧ n0 ≤ gs ∧ Blk w gs y.cells 24 ∧ TrAt (n0 ≤ ·) w y m
def tripR (n0 : Nat) (x y : PN) (m : Tr) (v : Value) (w : World) : Prop := ∃ (gs : Nat) (z : PN), v = .slice (some ⟨gs, 0, none⟩) 3 3 ∧ n0 ≤ gs ∧ PnAt w gs [x, y, z] ∧ TrAt (n0 ≤ ·) w z m
def over3R (n0 : Nat) (k n : Int) (x y : PN) (m : Tr) (v : Value) (w : World) : Prop := ∃ (gs : Nat) (z : PN), v = .agg #[.int .i64 k, .int .i64 0, .string ⟨#[]⟩, .string ⟨#[]⟩, .int .i64 n, .slice (some ⟨gs, 0, none⟩) 3 3] ∧ n0 ≤ gs ∧ PnAt w gs [x, y, z] ∧ TrAt (n0 ≤ ·) w z m
def listRR (n0 p g cap long : Nat) (T : List Lx.Tok) (r : List Tr) (s' : PSt) (v : Value) (w : World) : Prop := ∃ L : List PN, KidsIn n0 w v L r ∧ RsAt w p g cap long T s'
theorem len_listLoop {rec : RecR} (hr : IncOk rec) (T : List Lx.Tok) : ∀ (f : Nat) (out : List Tr) (s : PSt) (r : List Tr) (s' : PSt), listLoopR rec T f out s = some (r, s') → out.length ≤ s.i → r.length ≤ s'.i + 1
 | 0, _, _, _, _, h, _ => by cases h
 | f + 1, out, s, r, s', h, ho => by
  unfold listLoopR at h
  split at h
  ·obtain ⟨m, hm, hq⟩ := Option.bind_eq_some_iff.1 h
   have h1 := hr _ _ m.1 m.2 hm
   split at hq
   ·exact len_listLoop hr T f _ _ _ _ hq (by rw [List.length_append]; simp only [List.length_cons, List.length_nil, advR]; omega)
   ·obtain ⟨rfl, rfl⟩ := Prod.mk.inj (Option.some.inj hq)
    rw [List.length_append]; simp only [List.length_cons, List.length_nil]; omega
  ·obtain ⟨rfl, rfl⟩ := Prod.mk.inj (Option.some.inj h)
   omega
theorem len_list {rec : RecR} (hr : IncOk rec) (T : List Lx.Tok) (long f : Nat) (s : PSt) (r : List Tr) (s' : PSt) (h : listR rec T long f s = some (r, s')) : r.length ≤ s'.i + 1 := by
 unfold listR at h
 split at h
 ·split at h
  ·obtain ⟨m, hm, hq⟩ := Option.map_eq_some_iff.1 h
   obtain ⟨rfl, rfl⟩ := Prod.mk.inj hq
   have h1 := len_listLoop hr T f [] _ m.1 m.2 hm (Nat.zero_le _)
   have h2 := inc_want T long m.2 [41]
   exact Nat.le_trans h1 (Nat.succ_le_succ h2)
  ·obtain ⟨rfl, rfl⟩ := Prod.mk.inj (Option.some.inj h)
   exact Nat.zero_le _
 ·obtain ⟨rfl, rfl⟩ := Prod.mk.inj (Option.some.inj h)
  exact Nat.zero_le _
end Go.Proofs.YtcgbpmeadohbkaaGreatDoor
