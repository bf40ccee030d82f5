import Derived.LoopN
import Derived.Outline
import Derived.Test.YtchpbdodlbghaaaGreatDoorRootA
namespace Go.Proofs.YtchpbdodlbghaaaGreatDoor
open Go.RowKit
set_option maxRecDepth 100000

structure RSt (B : Nat) (w0 w : World) (b q n : Nat) : Prop where
  root : RootTo w b n
  cell : Blk w q #[.map (some b)] 119
  below : Below B w0 w
  hb : B ≤ b
  hq : B ≤ q
  hw : B ≤ w.heap.size
theorem RSt.ext {B : Nat} {w0 w w' : World} {b q n : Nat} (h : RSt B w0 w b q n) (hx : Ext w w') : RSt B w0 w' b q n :=
  ⟨h.root.ext hx, h.cell.keep hx, Below.trans h.below (Below.mono hx h.hw), h.hb, h.hq, Nat.le_trans h.hw hx.size⟩
theorem RSt.alloc {B : Nat} {w0 w : World} {b q n : Nat} (h : RSt B w0 w b q n) (o : Obj) : RSt B w0 (w.alloc o) b q n :=
  h.ext ((Below.refl _ _).alloc (Nat.le_refl _) o)
theorem RootTo.nocells {w : World} {b n : Nat} (h : RootTo w b n) : ∀ c t f, w.heap[b]? ≠ some (.cells c t f) := by
  obtain ⟨L, h1, _⟩ := h
  exact h1.nocells
def PutPost (B : Nat) (w0 : World) (b q n : Nat) (e : Ending) (w' : World) : Prop := e = .returned (.tuple #[]) ∧ RSt B w0 w' b q n
theorem put_st {B b q n c : Nat} {es : List El} {v : Value} {w0 w : World} (h : RSt B w0 w b q n) (hn : rootL[n]? = some (c, es)) (hv : ReadsL w v (wordsV es)) :
    Calls Tryz.prog 37 #[.int .i64 c, v, .pointer (some ⟨q, 0, none⟩)] w (PutPost B w0 b q (n + 1)) :=
  (put_any b q n c es v w (by rw [h.cell.cell]; rfl) h.root hn hv).mono fun e w' ⟨h1, h2, h3, h4⟩ =>
    ⟨h1, h2, (h3.block q h.cell.lt (fun e => h.root.nocells _ _ _ (by rw [← Option.some.inj e]; exact h.cell))).trans h.cell, h.below.grown h3 h.hw (fun k hk => by cases hk; exact h.hb), h.hb, h.hq, by rw [h4]; exact h.hw⟩
theorem reads_one {w : World} {u : Value} {t : TypeId} : ReadsL (w.alloc (.cells #[u] t)) (.slice (some ⟨w.heap.size, 0, none⟩) 1 1) [u] :=
  .inr ⟨_, 1, rfl, Nat.le_refl _, fun j u' hj => by
    rw [(Blk.new w #[u] t rfl).cell]
    simpa using hj⟩
theorem reads_two {w : World} {u u' : Value} {t : TypeId} : ReadsL (w.alloc (.cells #[u, u'] t)) (.slice (some ⟨w.heap.size, 0, none⟩) 2 2) [u, u'] :=
  .inr ⟨_, 2, rfl, Nat.le_refl _, fun j x hj => by
    rw [(Blk.new w #[u, u'] t rfl).cell]
    simpa using hj⟩
theorem root_start {w : World} : RootTo (w.alloc (.map #[] 0)) w.heap.size 0 :=
  ⟨[], GMap.new _ _ _ rfl, rfl, Nat.zero_le _, fun i _ _ hi => by omega⟩
def StrIter (w : World) (r : Nat) (s : ByteArray) (pos : Nat) : Prop := w.heap[r]? = some (.stringIter s pos)
theorem StrIter.lt {w : World} {r : Nat} {s : ByteArray} {pos : Nat} (h : StrIter w r s pos) : r < w.heap.size := (Array.getElem?_eq_some_iff.1 h).1
theorem StrIter.nocells {w : World} {r : Nat} {s : ByteArray} {pos : Nat} (h : StrIter w r s pos) : ∀ c t f, w.heap[r]? ≠ some (.cells c t f) := by
  intro c t f e
  rw [h] at e
  cases e
theorem StrIter.alloc {w : World} {r : Nat} {s : ByteArray} {pos : Nat} (h : StrIter w r s pos) (o : Obj) : StrIter (w.alloc o) r s pos := (Below.heap_alloc w o r h.lt).trans h
theorem StrIter.grown {w w' : World} {r b : Nat} {s : ByteArray} {pos : Nat} (h : StrIter w r s pos) (hg : w.grownBy w' (some b)) (hne : r ≠ b) : StrIter w' r s pos := (hg.block r h.lt (fun e => hne (Option.some.inj e))).trans h
theorem run_next_str {P : Program} {w : World} {r : Nat} {s : ByteArray} {pos : Nat} (ty : TypeId) (hr : StrIter w r s pos) (h : pos < s.size) (ha : (s[pos]'h).toNat < 128) :
    ∃ w', (Instr.next (.pointer (some ⟨r, 0, none⟩)) true ty).run P w = .ok (.tuple #[.bool true, .int .i64 pos, .int .i32 (s[pos]'h).toNat]) w' ∧ StrIter w' r s (pos + 1) ∧ w.grownBy w' (some r) ∧ w'.heap.size = w.heap.size := by
  have hlt := hr.lt
  unfold StrIter at hr
  refine ⟨{ w with heap := w.heap.setIfInBounds r (.stringIter s (pos + 1)) }, ?_, ?_, ⟨rfl, rfl, rfl, by simp, fun i hi hne => ?_⟩, by simp⟩
  · simp only [Instr.next, getObj, setObj, Sem.run_bind, Sem.run, hr, Result.andThen, h, if_true, decode_ascii s pos h ha]
    simp [goInt]
  · simp [StrIter, hlt]
  · have : r ≠ i := fun e => hne (by rw [e])
    simp [Array.getElem?_setIfInBounds_ne this]
theorem run_next_strend {P : Program} {w : World} {r : Nat} {s : ByteArray} {pos : Nat} (ty : TypeId) (hr : StrIter w r s pos) (h : ¬ pos < s.size) :
    (Instr.next (.pointer (some ⟨r, 0, none⟩)) true ty).run P w = .ok (.tuple #[.bool false]) w := by
  unfold StrIter at hr
  simp [Instr.next, getObj, Sem.run, hr, h]
theorem RSt.grown {B : Nat} {w0 w w' : World} {b q n r : Nat} (h : RSt B w0 w b q n) (hg : w.grownBy w' (some r)) (hs : w'.heap.size = w.heap.size) (hm : ∀ c t f, w.heap[r]? ≠ some (.cells c t f)) (hrb : r ≠ b) (hB : B ≤ r) : RSt B w0 w' b q n := by
  refine ⟨?_, (hg.block q h.cell.lt (fun e => hm _ _ _ (by rw [← Option.some.inj e]; exact h.cell))).trans h.cell, h.below.grown hg h.hw (fun k hk => by cases hk; exact hB), h.hb, h.hq, by rw [hs]; exact h.hw⟩
  obtain ⟨L, h1, h2, h3, h4⟩ := h.root
  refine ⟨L, h1.grown hg (fun e => hrb (Option.some.inj e).symm), h2, h3, fun i c es hi hr => ?_⟩
  obtain ⟨v, h5, h6⟩ := h4 i c es hi hr
  exact ⟨v, h5, h6.grown hg hm⟩
theorem wpList_snext {P : Program} {w : World} {ops : Array Oper} {rest : List Oper} {o : Oper} {a : Act} {Q : Exit → Act → World → Prop} (hg : o.guard = none) (it : Operand) (hop : o.op = Op.next it true) (r : Nat) (s : ByteArray) (pos : Nat)
    (hit : a.eval it = .pointer (some ⟨r, 0, none⟩)) (hr : StrIter w r s pos) (h : pos < s.size) (ha : (s[pos]'h).toNat < 128)
    (hK : ∀ w', StrIter w' r s (pos + 1) → w.grownBy w' (some r) → w'.heap.size = w.heap.size → wpList P ops Q rest (a.put o.dst (.tuple #[.bool true, .int .i64 pos, .int .i32 (s[pos]'h).toNat])) w') : wpList P ops Q (o :: rest) a w := by
  refine wpList_plain hg fun K' hK' => ?_
  obtain ⟨w', hrun, r1, r2, r3⟩ := run_next_str (P := P) o.type hr h ha
  unfold Oper.wp
  simp [execOp, hop, hit, hrun, Result.andThen]
  exact hK' _ _ (hK w' r1 r2 r3)
structure RS1 (B : Nat) (w0 w : World) (b q n r : Nat) (s : ByteArray) (pos : Nat) : Prop where
  st : RSt B w0 w b q n
  it : StrIter w r s pos
  ne : r ≠ b
  hr : B ≤ r
theorem RS1.next {B : Nat} {w0 w w' : World} {b q n r : Nat} {s : ByteArray} {pos : Nat} (h : RS1 B w0 w b q n r s pos) (hi : StrIter w' r s (pos + 1)) (hg : w.grownBy w' (some r)) (hs : w'.heap.size = w.heap.size) : RS1 B w0 w' b q n r s (pos + 1) :=
  ⟨h.st.grown hg hs h.it.nocells h.ne h.hr, hi, h.ne, h.hr⟩
theorem RS1.alloc {B : Nat} {w0 w : World} {b q n r : Nat} {s : ByteArray} {pos : Nat} (h : RS1 B w0 w b q n r s pos) (o : Obj) : RS1 B w0 (w.alloc o) b q n r s pos :=
  ⟨h.st.alloc o, h.it.alloc o, h.ne, h.hr⟩
def PutPost1 (B : Nat) (w0 : World) (b q n r : Nat) (s : ByteArray) (pos : Nat) (e : Ending) (w' : World) : Prop := e = .returned (.tuple #[]) ∧ RS1 B w0 w' b q n r s pos
theorem put_st1 {B b q n c r pos : Nat} {s : ByteArray} {es : List El} {v : Value} {w0 w : World} (h : RS1 B w0 w b q n r s pos) (hn : rootL[n]? = some (c, es)) (hv : ReadsL w v (wordsV es)) :
    Calls Tryz.prog 37 #[.int .i64 c, v, .pointer (some ⟨q, 0, none⟩)] w (PutPost1 B w0 b q (n + 1) r s pos) :=
  (put_any b q n c es v w (by rw [h.st.cell.cell]; rfl) h.st.root hn hv).mono fun e w' ⟨h1, h2, h3, h4⟩ =>
    ⟨h1, ⟨h2, (h3.block q h.st.cell.lt (fun e => h.st.root.nocells _ _ _ (by rw [← Option.some.inj e]; exact h.st.cell))).trans h.st.cell, h.st.below.grown h3 h.st.hw (fun k hk => by cases hk; exact h.st.hb), h.st.hb, h.st.hq, by rw [h4]; exact h.st.hw⟩, h.it.grown h3 h.ne, h.ne, h.hr⟩
def sgnS : ByteArray := ⟨#[32, 95, 45, 44, 46, 39]⟩
theorem root_sig : ∀ k, k < 6 → ∃ (h : k < sgnS.size) (c : Nat), (sgnS[k]'h).toNat = c ∧ c < 128 ∧ rootL[k]? = some (c, [⟨16 + 4 * k, 32, 2, true⟩]) ∧ (El.mk (16 + 4 * k) 32 2 true).ok := by
  intro k hk
  rcases k with _ | _ | _ | _ | _ | _ | k
  · exact ⟨by decide, 32, by decide +kernel⟩
  · exact ⟨by decide, 95, by decide +kernel⟩
  · exact ⟨by decide, 45, by decide +kernel⟩
  · exact ⟨by decide, 44, by decide +kernel⟩
  · exact ⟨by decide, 46, by decide +kernel⟩
  · exact ⟨by decide, 39, by decide +kernel⟩
  · omega
theorem wpList_snext' {P : Program} {w : World} {ops : Array Oper} {rest : List Oper} {o : Oper} {a : Act} {Q : Exit → Act → World → Prop} (hg : o.guard = none) (it : Operand) (hop : o.op = Op.next it true) (r : Nat) (s : ByteArray) (pos c : Nat)
    (hit : a.eval it = .pointer (some ⟨r, 0, none⟩)) (hr : StrIter w r s pos) (h : pos < s.size) (hc : (s[pos]'h).toNat = c) (ha : c < 128)
    (hK : ∀ w', StrIter w' r s (pos + 1) → w.grownBy w' (some r) → w'.heap.size = w.heap.size → wpList P ops Q rest (a.put o.dst (.tuple #[.bool true, .int .i64 pos, .int .i32 c])) w') : wpList P ops Q (o :: rest) a w := by
  subst hc
  exact wpList_snext hg it hop r s pos hit hr h ha hK
theorem wpList_snone {P : Program} {w : World} {ops : Array Oper} {rest : List Oper} {o : Oper} {a : Act} {Q : Exit → Act → World → Prop} (hg : o.guard = none) (it : Operand) (hop : o.op = Op.next it true) (r : Nat) (s : ByteArray) (pos : Nat)
    (hit : a.eval it = .pointer (some ⟨r, 0, none⟩)) (hr : StrIter w r s pos) (h : ¬ pos < s.size)
    (hK : wpList P ops Q rest (a.put o.dst (.tuple #[.bool false])) w) : wpList P ops Q (o :: rest) a w := by
  refine wpList_plain hg fun K' hK' => ?_
  have hrun := run_next_strend (P := P) o.type hr h
  unfold Oper.wp
  simp [execOp, hop, hit, hrun, Result.andThen]
  exact hK' _ _ hK
def strPos (w : World) (r : Nat) : Nat := match w.heap[r]? with | some (.stringIter _ p) => p | _ => 0
theorem StrIter.pos {w : World} {r : Nat} {s : ByteArray} {pos : Nat} (h : StrIter w r s pos) : strPos w r = pos := by
  unfold StrIter at h
  unfold strPos
  rw [h]
theorem root_begin (w : World) : RS1 w.heap.size w (((w.alloc (.map #[] 0)).alloc (.cells #[.map (some w.heap.size)] 119)).iter ⟨#[32, 95, 45, 44, 46, 39]⟩ 0) w.heap.size (w.heap.size + 1) 0 (w.heap.size + 2) sgnS 0 := by
  have h1 : RSt w.heap.size w ((w.alloc (.map #[] 0)).alloc (.cells #[.map (some w.heap.size)] 119)) w.heap.size (w.heap.size + 1) 0 :=
    ⟨root_start.ext (Below.alloc (Below.refl _ _) (Nat.le_refl _) _), Blk.new _ _ _ (by simp), ((Below.refl _ _).alloc (Nat.le_refl _) _).alloc (by simp) _, Nat.le_refl _, by omega, by simp; omega⟩
  refine ⟨h1.alloc _, ?_, by omega, by omega⟩
  have := heap_alloc_new ((w.alloc (.map #[] 0)).alloc (.cells #[.map (some w.heap.size)] 119)) (.stringIter sgnS 0)
  rw [show ((w.alloc (.map #[] 0)).alloc (.cells #[.map (some w.heap.size)] 119)).heap.size = w.heap.size + 2 by simp] at this
  exact this
theorem root_dig : ∀ k, k < 10 → rootL[6 + k]? = some (48 + k, [⟨128 + 4 * k, 32, 2, false⟩]) ∧ (El.mk (128 + 4 * k) 32 2 false).ok := by decide +kernel
theorem root_low : ∀ k, k < 26 → rootL[16 + 2 * k]? = some (97 + k, [low k 2]) ∧ rootL[16 + 2 * k + 1]? = some (65 + k, [low k 8]) := by decide +kernel
def markT : List (Nat × Nat) := [(768, 37), (769, 36), (770, 39), (771, 45), (772, 47), (776, 43), (778, 41), (807, 48)]
def markW (m : Nat) : Nat := ((markT.find? (fun x => x.1 == m)).map (·.2)).getD 0
theorem mark_w {m : Nat} (w : World) (h : m ∈ markT.map (·.1)) : Calls Tryz.prog 40 #[.int .i64 m] w fun r w' => r = .returned (.int .u32 ((mk (markW m)).word : Int)) ∧ w = w' :=
  mark_any m (markW m) w (by
    have : ∀ m ∈ markT.map (·.1), (m, markW m) ∈ markT := by decide +kernel
    exact this m h)
theorem root_mk : ∀ k, k < 8 → ∃ m, (markT.map (·.1))[k]? = some m ∧ m ∈ markT.map (·.1) ∧ rootL[68 + k]? = some (m, [mk (markW m)]) := by
  intro k hk
  rcases k with _ | _ | _ | _ | _ | _ | _ | _ | k
  · exact ⟨768, by decide +kernel⟩
  · exact ⟨769, by decide +kernel⟩
  · exact ⟨770, by decide +kernel⟩
  · exact ⟨771, by decide +kernel⟩
  · exact ⟨772, by decide +kernel⟩
  · exact ⟨776, by decide +kernel⟩
  · exact ⟨778, by decide +kernel⟩
  · exact ⟨807, by decide +kernel⟩
  · omega
theorem mark_index (k : Nat) (hk : k < 8) (m : Nat) (hm : (markT.map (·.1))[k]? = some m) : ∀ W, (Instr.index 128 (.agg #[.int .i64 768, .int .i64 769, .int .i64 770, .int .i64 771, .int .i64 772, .int .i64 776, .int .i64 778, .int .i64 807]) (.int .i64 k)).run Tryz.prog W = .ok (.int .i64 m) W := by
  intro W
  rcases k with _ | _ | _ | _ | _ | _ | _ | _ | k
  · obtain rfl := Option.some.inj hm; kernel_rfl
  · obtain rfl := Option.some.inj hm; kernel_rfl
  · obtain rfl := Option.some.inj hm; kernel_rfl
  · obtain rfl := Option.some.inj hm; kernel_rfl
  · obtain rfl := Option.some.inj hm; kernel_rfl
  · obtain rfl := Option.some.inj hm; kernel_rfl
  · obtain rfl := Option.some.inj hm; kernel_rfl
  · obtain rfl := Option.some.inj hm; kernel_rfl
  · omega
theorem put_stI {B b q n c : Nat} {ci : Int} {es : List El} {v : Value} {w0 w : World} (hc : ci = c) (h : RSt B w0 w b q n) (hn : rootL[n]? = some (c, es)) (hv : ReadsL w v (wordsV es)) :
    Calls Tryz.prog 37 #[.int .i64 ci, v, .pointer (some ⟨q, 0, none⟩)] w (PutPost B w0 b q (n + 1)) := by
  subst hc
  exact put_st h hn hv
def readsTwo (a b : El) (v : Value) (w : World) : Prop := ReadsL w v (wordsV [a, b])
def grpT : List (Nat × Nat × List Nat) := [(192, 0, [768, 769, 770, 771, 776, 778]), (199, 2, [807]), (200, 4, [768, 769, 770, 776]), (204, 8, [768, 769, 770, 776]), (209, 13, [771]), (210, 14, [768, 769, 770, 771, 776]), (217, 20, [768, 769, 770, 776]), (221, 24, [769])]
def grpF (j : Nat) : Nat := (grpT.getD j (0, 0, [])).1
def grpC (j : Nat) : Nat := (grpT.getD j (0, 0, [])).2.1
def grpM (j : Nat) : List Nat := (grpT.getD j (0, 0, [])).2.2
def grpO (j : Nat) : Nat := 76 + 2 * [0, 6, 7, 11, 15, 16, 21, 25, 26].getD j 0
theorem root_grp : ∀ j, j < 8 → grpC j < 26 ∧ grpF j < 300 ∧ (grpM j).length < 10 ∧ grpO (j + 1) = grpO j + 2 * (grpM j).length := by decide +kernel
theorem root_grp2 : ∀ j, j < 8 → ∀ i, i < (grpM j).length → (grpM j).getD i 0 ∈ markT.map (·.1) := by decide +kernel
theorem root_grp3 : ∀ j, j < 8 → ∀ i, i < (grpM j).length → rootL[grpO j + 2 * i]? = some (grpF j + i, [low (grpC j) 8, mk (markW ((grpM j).getD i 0))]) := by decide +kernel
theorem root_grp4 : ∀ j, j < 8 → ∀ i, i < (grpM j).length → rootL[grpO j + 2 * i + 1]? = some (grpF j + i + 32, [low (grpC j) 2, mk (markW ((grpM j).getD i 0))]) := by decide +kernel
def grpV (v0 v1 v2 v3 v4 v5 v6 v7 : Value) (j : Nat) : Value := [v0, v1, v2, v3, v4, v5, v6, v7].getD j undef
theorem grp_index (v0 v1 v2 v3 v4 v5 v6 v7 : Value) (j : Nat) (hj : j < 8) : ∀ W, (Instr.index 131 (.agg #[.int .i64 192, .int .i32 97, v0, .int .i64 199, .int .i32 99, v1, .int .i64 200, .int .i32 101, v2, .int .i64 204, .int .i32 105, v3, .int .i64 209, .int .i32 110, v4, .int .i64 210, .int .i32 111, v5, .int .i64 217, .int .i32 117, v6, .int .i64 221, .int .i32 121, v7]) (.int .i64 j)).run Tryz.prog W =
    .ok (.agg #[.int .i64 (grpF j), .int .i32 (97 + (grpC j : Int)), grpV v0 v1 v2 v3 v4 v5 v6 v7 j]) W := by
  intro W
  rcases j with _ | _ | _ | _ | _ | _ | _ | _ | j
  · kernel_rfl
  · kernel_rfl
  · kernel_rfl
  · kernel_rfl
  · kernel_rfl
  · kernel_rfl
  · kernel_rfl
  · kernel_rfl
  · omega
def GrpOk (W : World) (v0 v1 v2 v3 v4 v5 v6 v7 : Value) : Prop := ∀ j, j < 8 → ReadsL W (grpV v0 v1 v2 v3 v4 v5 v6 v7 j) ((grpM j).map fun m : Nat => Value.int .i64 (m : Int))
theorem grpM_pos : ∀ j, j < 8 → 0 < (grpM j).length := by decide +kernel
theorem GrpOk.open {W : World} {v0 v1 v2 v3 v4 v5 v6 v7 : Value} (h : GrpOk W v0 v1 v2 v3 v4 v5 v6 v7) {j : Nat} (hj : j < 8) : ∃ g c, grpV v0 v1 v2 v3 v4 v5 v6 v7 j = .slice (some ⟨g, 0, none⟩) (grpM j).length c := by
  rcases h j hj with ⟨_, h0⟩ | ⟨g, c, hv, _⟩
  · have := grpM_pos j hj
    have h1 := congrArg List.length h0
    rw [List.length_map, List.length_nil] at h1
    omega
  · exact ⟨g, c, by rw [hv, List.length_map]⟩
theorem GrpOk.cells {W : World} {v0 v1 v2 v3 v4 v5 v6 v7 : Value} (h : GrpOk W v0 v1 v2 v3 v4 v5 v6 v7) {j g n c : Nat} (hj : j < 8) (hv : grpV v0 v1 v2 v3 v4 v5 v6 v7 j = .slice (some ⟨g, 0, none⟩) n c) :
    ∀ i, i < (grpM j).length → W.cell? ⟨g, i, none⟩ = some (.int .i64 (((grpM j).getD i 0 : Nat) : Int)) := by
  intro i hi
  rcases h j hj with ⟨h1, _⟩ | ⟨g', c', h1, h2, h3⟩
  · rw [h1] at hv; cases hv
  · rw [h1] at hv
    simp only [Value.slice.injEq, Option.some.injEq, Addr.mk.injEq] at hv
    obtain ⟨⟨rfl, _⟩, _⟩ := hv
    refine h3 i _ ?_
    rw [List.getElem?_map, List.getD_eq_getElem?_getD, List.getElem?_eq_getElem hi]
    rfl
theorem GrpOk.ext {W W' : World} {v0 v1 v2 v3 v4 v5 v6 v7 : Value} (h : GrpOk W v0 v1 v2 v3 v4 v5 v6 v7) (hx : Ext W W') : GrpOk W' v0 v1 v2 v3 v4 v5 v6 v7 := fun j hj => (h j hj).ext hx
def PutPostG (B : Nat) (w0 w : World) (b q n : Nat) (e : Ending) (w' : World) : Prop := e = .returned (.tuple #[]) ∧ RSt B w0 w' b q n ∧ w.grownBy w' (some b)
theorem put_stG {B b q n c : Nat} {ci : Int} {es : List El} {v : Value} {w0 w : World} (hc : ci = c) (h : RSt B w0 w b q n) (hn : rootL[n]? = some (c, es)) (hv : ReadsL w v (wordsV es)) :
    Calls Tryz.prog 37 #[.int .i64 ci, v, .pointer (some ⟨q, 0, none⟩)] w (PutPostG B w0 w b q (n + 1)) := by
  subst hc
  exact (put_any b q n c es v w (by rw [h.cell.cell]; rfl) h.root hn hv).mono fun e w' ⟨h1, h2, h3, h4⟩ =>
    ⟨h1, ⟨h2, (h3.block q h.cell.lt (fun e => h.root.nocells _ _ _ (by rw [← Option.some.inj e]; exact h.cell))).trans h.cell, h.below.grown h3 h.hw (fun k hk => by cases hk; exact h.hb), h.hb, h.hq, by rw [h4]; exact h.hw⟩, h3⟩
theorem GrpOk.grown {W W' : World} {v0 v1 v2 v3 v4 v5 v6 v7 : Value} {b n : Nat} (h : GrpOk W v0 v1 v2 v3 v4 v5 v6 v7) (hg : W.grownBy W' (some b)) (hr : RootTo W b n) : GrpOk W' v0 v1 v2 v3 v4 v5 v6 v7 := fun j hj => (h j hj).grown hg hr.nocells
theorem blk_grown {W W' : World} {g b n : Nat} {cs : Array Value} {t : TypeId} (h : Blk W g cs t) (hg : W.grownBy W' (some b)) (hr : RootTo W b n) : Blk W' g cs t :=
  (hg.block g h.lt (fun e => hr.nocells _ _ _ (by rw [← Option.some.inj e]; exact h))).trans h
structure RS5 (B : Nat) (w0 w : World) (b q n : Nat) (v0 v1 v2 v3 v4 v5 v6 v7 : Value) : Prop where
  st : RSt B w0 w b q n
  grp : GrpOk w v0 v1 v2 v3 v4 v5 v6 v7
structure RS6 (B : Nat) (w0 w : World) (b q n : Nat) (v0 v1 v2 v3 v4 v5 v6 v7 : Value) (X j : Nat) : Prop extends RS5 B w0 w b q n v0 v1 v2 v3 v4 v5 v6 v7 where
  x : Blk w X #[.int .i64 (grpF j), .int .i32 (97 + (grpC j : Int)), grpV v0 v1 v2 v3 v4 v5 v6 v7 j] 130
theorem RS5.ext {B : Nat} {w0 w w' : World} {b q n : Nat} {v0 v1 v2 v3 v4 v5 v6 v7 : Value} (h : RS5 B w0 w b q n v0 v1 v2 v3 v4 v5 v6 v7) (hx : Ext w w') : RS5 B w0 w' b q n v0 v1 v2 v3 v4 v5 v6 v7 := ⟨h.st.ext hx, h.grp.ext hx⟩
theorem RS6.ext {B : Nat} {w0 w w' : World} {b q n : Nat} {v0 v1 v2 v3 v4 v5 v6 v7 : Value} {X j : Nat} (h : RS6 B w0 w b q n v0 v1 v2 v3 v4 v5 v6 v7 X j) (hx : Ext w w') : RS6 B w0 w' b q n v0 v1 v2 v3 v4 v5 v6 v7 X j := ⟨h.toRS5.ext hx, h.x.keep hx⟩
theorem RS6.put {B : Nat} {w0 w w' : World} {b q n : Nat} {v0 v1 v2 v3 v4 v5 v6 v7 : Value} {X j : Nat} (h : RS6 B w0 w b q n v0 v1 v2 v3 v4 v5 v6 v7 X j) (hp : RSt B w0 w' b q (n + 1) ∧ w.grownBy w' (some b)) : RS6 B w0 w' b q (n + 1) v0 v1 v2 v3 v4 v5 v6 v7 X j :=
  ⟨⟨hp.1, h.grp.grown hp.2 h.st.root⟩, blk_grown h.x hp.2 h.st.root⟩
theorem reads_blk {w : World} {g n : Nat} {cs : Array Value} {t : TypeId} {xs : List Value} (h : Blk w g cs t) (hx : cs.toList = xs) (hn : xs.length = n) : ReadsL w (.slice (some ⟨g, 0, none⟩) n n) xs := by
  subst hx hn
  exact .inr ⟨g, _, rfl, Nat.le_refl _, fun j u hj => by rw [h.cell]; simpa using hj⟩
theorem grp_start {B : Nat} {w0 wr : World} {b q : Nat} (h : RSt B w0 wr b q 76) :
    RS5 B w0 ((((((((wr.alloc (.cells #[.int .i64 768, .int .i64 769, .int .i64 770, .int .i64 771, .int .i64 776, .int .i64 778] 3)).alloc (.cells #[.int .i64 807] 3)).alloc (.cells #[.int .i64 768, .int .i64 769, .int .i64 770, .int .i64 776] 3)).alloc (.cells #[.int .i64 768, .int .i64 769, .int .i64 770, .int .i64 776] 3)).alloc (.cells #[.int .i64 771] 3)).alloc (.cells #[.int .i64 768, .int .i64 769, .int .i64 770, .int .i64 771, .int .i64 776] 3)).alloc (.cells #[.int .i64 768, .int .i64 769, .int .i64 770, .int .i64 776] 3)).alloc (.cells #[.int .i64 769] 3)) b q 76 (.slice (some ⟨wr.heap.size, 0, none⟩) 6 6) (.slice (some ⟨wr.heap.size + 1, 0, none⟩) 1 1) (.slice (some ⟨wr.heap.size + 1 + 1, 0, none⟩) 4 4) (.slice (some ⟨wr.heap.size + 1 + 1 + 1, 0, none⟩) 4 4) (.slice (some ⟨wr.heap.size + 1 + 1 + 1 + 1, 0, none⟩) 1 1) (.slice (some ⟨wr.heap.size + 1 + 1 + 1 + 1 + 1, 0, none⟩) 5 5) (.slice (some ⟨wr.heap.size + 1 + 1 + 1 + 1 + 1 + 1, 0, none⟩) 4 4) (.slice (some ⟨wr.heap.size + 1 + 1 + 1 + 1 + 1 + 1 + 1, 0, none⟩) 1 1) := by
  refine ⟨(((((((h.alloc _).alloc _).alloc _).alloc _).alloc _).alloc _).alloc _).alloc _, fun j hj => ?_⟩
  have b0 := ((((((((Blk.new wr #[.int .i64 768, .int .i64 769, .int .i64 770, .int .i64 771, .int .i64 776, .int .i64 778] 3 (n := wr.heap.size) (by simp)).alloc (.cells #[.int .i64 807] 3)).alloc (.cells #[.int .i64 768, .int .i64 769, .int .i64 770, .int .i64 776] 3)).alloc (.cells #[.int .i64 768, .int .i64 769, .int .i64 770, .int .i64 776] 3)).alloc (.cells #[.int .i64 771] 3)).alloc (.cells #[.int .i64 768, .int .i64 769, .int .i64 770, .int .i64 771, .int .i64 776] 3)).alloc (.cells #[.int .i64 768, .int .i64 769, .int .i64 770, .int .i64 776] 3)).alloc (.cells #[.int .i64 769] 3))
  have b1 := (((((((Blk.new (wr.alloc (.cells #[.int .i64 768, .int .i64 769, .int .i64 770, .int .i64 771, .int .i64 776, .int .i64 778] 3)) #[.int .i64 807] 3 (n := wr.heap.size + 1) (by simp)).alloc (.cells #[.int .i64 768, .int .i64 769, .int .i64 770, .int .i64 776] 3)).alloc (.cells #[.int .i64 768, .int .i64 769, .int .i64 770, .int .i64 776] 3)).alloc (.cells #[.int .i64 771] 3)).alloc (.cells #[.int .i64 768, .int .i64 769, .int .i64 770, .int .i64 771, .int .i64 776] 3)).alloc (.cells #[.int .i64 768, .int .i64 769, .int .i64 770, .int .i64 776] 3)).alloc (.cells #[.int .i64 769] 3))
  have b2 := ((((((Blk.new ((wr.alloc (.cells #[.int .i64 768, .int .i64 769, .int .i64 770, .int .i64 771, .int .i64 776, .int .i64 778] 3)).alloc (.cells #[.int .i64 807] 3)) #[.int .i64 768, .int .i64 769, .int .i64 770, .int .i64 776] 3 (n := wr.heap.size + 1 + 1) (by simp)).alloc (.cells #[.int .i64 768, .int .i64 769, .int .i64 770, .int .i64 776] 3)).alloc (.cells #[.int .i64 771] 3)).alloc (.cells #[.int .i64 768, .int .i64 769, .int .i64 770, .int .i64 771, .int .i64 776] 3)).alloc (.cells #[.int .i64 768, .int .i64 769, .int .i64 770, .int .i64 776] 3)).alloc (.cells #[.int .i64 769] 3))
  have b3 := (((((Blk.new (((wr.alloc (.cells #[.int .i64 768, .int .i64 769, .int .i64 770, .int .i64 771, .int .i64 776, .int .i64 778] 3)).alloc (.cells #[.int .i64 807] 3)).alloc (.cells #[.int .i64 768, .int .i64 769, .int .i64 770, .int .i64 776] 3)) #[.int .i64 768, .int .i64 769, .int .i64 770, .int .i64 776] 3 (n := wr.heap.size + 1 + 1 + 1) (by simp)).alloc (.cells #[.int .i64 771] 3)).alloc (.cells #[.int .i64 768, .int .i64 769, .int .i64 770, .int .i64 771, .int .i64 776] 3)).alloc (.cells #[.int .i64 768, .int .i64 769, .int .i64 770, .int .i64 776] 3)).alloc (.cells #[.int .i64 769] 3))
  have b4 := ((((Blk.new ((((wr.alloc (.cells #[.int .i64 768, .int .i64 769, .int .i64 770, .int .i64 771, .int .i64 776, .int .i64 778] 3)).alloc (.cells #[.int .i64 807] 3)).alloc (.cells #[.int .i64 768, .int .i64 769, .int .i64 770, .int .i64 776] 3)).alloc (.cells #[.int .i64 768, .int .i64 769, .int .i64 770, .int .i64 776] 3)) #[.int .i64 771] 3 (n := wr.heap.size + 1 + 1 + 1 + 1) (by simp)).alloc (.cells #[.int .i64 768, .int .i64 769, .int .i64 770, .int .i64 771, .int .i64 776] 3)).alloc (.cells #[.int .i64 768, .int .i64 769, .int .i64 770, .int .i64 776] 3)).alloc (.cells #[.int .i64 769] 3))
  have b5 := (((Blk.new (((((wr.alloc (.cells #[.int .i64 768, .int .i64 769, .int .i64 770, .int .i64 771, .int .i64 776, .int .i64 778] 3)).alloc (.cells #[.int .i64 807] 3)).alloc (.cells #[.int .i64 768, .int .i64 769, .int .i64 770, .int .i64 776] 3)).alloc (.cells #[.int .i64 768, .int .i64 769, .int .i64 770, .int .i64 776] 3)).alloc (.cells #[.int .i64 771] 3)) #[.int .i64 768, .int .i64 769, .int .i64 770, .int .i64 771, .int .i64 776] 3 (n := wr.heap.size + 1 + 1 + 1 + 1 + 1) (by simp)).alloc (.cells #[.int .i64 768, .int .i64 769, .int .i64 770, .int .i64 776] 3)).alloc (.cells #[.int .i64 769] 3))
  have b6 := ((Blk.new ((((((wr.alloc (.cells #[.int .i64 768, .int .i64 769, .int .i64 770, .int .i64 771, .int .i64 776, .int .i64 778] 3)).alloc (.cells #[.int .i64 807] 3)).alloc (.cells #[.int .i64 768, .int .i64 769, .int .i64 770, .int .i64 776] 3)).alloc (.cells #[.int .i64 768, .int .i64 769, .int .i64 770, .int .i64 776] 3)).alloc (.cells #[.int .i64 771] 3)).alloc (.cells #[.int .i64 768, .int .i64 769, .int .i64 770, .int .i64 771, .int .i64 776] 3)) #[.int .i64 768, .int .i64 769, .int .i64 770, .int .i64 776] 3 (n := wr.heap.size + 1 + 1 + 1 + 1 + 1 + 1) (by simp)).alloc (.cells #[.int .i64 769] 3))
  have b7 := (Blk.new (((((((wr.alloc (.cells #[.int .i64 768, .int .i64 769, .int .i64 770, .int .i64 771, .int .i64 776, .int .i64 778] 3)).alloc (.cells #[.int .i64 807] 3)).alloc (.cells #[.int .i64 768, .int .i64 769, .int .i64 770, .int .i64 776] 3)).alloc (.cells #[.int .i64 768, .int .i64 769, .int .i64 770, .int .i64 776] 3)).alloc (.cells #[.int .i64 771] 3)).alloc (.cells #[.int .i64 768, .int .i64 769, .int .i64 770, .int .i64 771, .int .i64 776] 3)).alloc (.cells #[.int .i64 768, .int .i64 769, .int .i64 770, .int .i64 776] 3)) #[.int .i64 769] 3 (n := wr.heap.size + 1 + 1 + 1 + 1 + 1 + 1 + 1) (by simp))
  rcases j with _ | _ | _ | _ | _ | _ | _ | _ | j
  · exact reads_blk b0 rfl rfl
  · exact reads_blk b1 rfl rfl
  · exact reads_blk b2 rfl rfl
  · exact reads_blk b3 rfl rfl
  · exact reads_blk b4 rfl rfl
  · exact reads_blk b5 rfl rfl
  · exact reads_blk b6 rfl rfl
  · exact reads_blk b7 rfl rfl
  · omega
def RetPost (K : Value → World → Prop) (e : Ending) (w' : World) : Prop := ∃ v, e = .returned v ∧ K v w'
set_option maxHeartbeats 4000000 in
theorem root_walk (w : World) (K : Value → World → Prop) (hB : ∀ wd, RSt w.heap.size w wd w.heap.size (w.heap.size + 1) 132 → Calls Tryz.prog 41 #[.map (some w.heap.size)] wd (RetPost K)) :
    Calls Tryz.prog 23 #[] w (RetPost K) := by
  have HB := Lib.hid hB
  clear hB
  have hmm := @run_makeMap Tryz.prog
  go_enter Tryz.func23, Tryz.ntmps23
  go_wp2
  have hst := root_begin w
  generalize hw0 : ((w.alloc (.map #[] 0)).alloc (.cells #[.map (some w.heap.size)] 119)).iter ⟨#[32, 95, 45, 44, 46, 39]⟩ 0 = W0 at hst ⊢
  clear hw0
  have HS := Lib.hid hst
  clear hst
  go_loopw [16] (fun _ wr => ∃ k, k ≤ 6 ∧ RS1 w.heap.size w wr w.heap.size (w.heap.size + 1) k (w.heap.size + 2) sgnS k) (fun _ wr => 6 - strPos wr (w.heap.size + 2))
  case atStart => exact ⟨0, by omega, HS.out⟩
  case round =>
    obtain ⟨k, hk, hr⟩ := hrel
    have HR := Lib.hid hr
    clear hr
    by_cases hlt : k < 6
    · obtain ⟨h1, c, h2, h3, h4, h5⟩ := root_sig k hlt
      have HC := Lib.hid h2
      have H4 := Lib.hid h4
      have H5 := Lib.hid h5
      clear h2 h4 h5
      go_wp2_with (refine wpList_snext' rfl _ rfl (w.heap.size + 2) sgnS k c rfl HR.out.it h1 HC.out h3 ?_; intro w1 hi hg hs)
      have HW := Lib.hid (HR.out.next hi hg hs)
      clear hi hg hs
      have hof := of_any (16 + 4 * k) 32 2 true w1 H5.out
      simp only [Int.natCast_add, Int.natCast_mul, Int.cast_ofNat_Int] at hof
      have HOF := Lib.hid hof
      clear hof
      go_wp2_with fail
      refine HOF.out.mono ?_
      rintro e w2 ⟨rfl, rfl⟩
      go_wp2_with fail
      refine (put_st1 (HW.out.alloc _) H4.out reads_one).mono ?_
      rintro e w3 ⟨rfl, hr3⟩
      have HR3 := Lib.hid hr3
      clear hr3
      go_wp2_with fail
      go_roundw
      case rel => exact ⟨k + 1, by omega, HR3.out⟩
      case measure => rw [HR.out.it.pos, HR3.out.it.pos]; omega
    · obtain rfl : k = 6 := by omega
      go_wp2_with (refine wpList_snone rfl _ rfl (w.heap.size + 2) sgnS 6 rfl HR.out.it (by decide) ?_)
      have HS2 := Lib.hid HR.out.st
      clear HR HS hlt hk
      go_loopw [29] (fun i wr => ∃ k : Nat, k ≤ 10 ∧ i = .int .i64 k ∧ RSt w.heap.size w wr w.heap.size (w.heap.size + 1) (6 + k)) (fun i _ => 10 - (intOf i).toNat)
      case atStart => exact ⟨0, by omega, rfl, HS2.out⟩
      case round =>
        obtain ⟨k, hk, rfl, hr⟩ := hrel
        have HR := Lib.hid hr
        clear hr
        by_cases hlt : k < 10
        · obtain ⟨h1, h2⟩ := root_dig k hlt
          have H1 := Lib.hid h1
          have H2 := Lib.hid h2
          clear h1 h2
          have hof := fun W => of_any (128 + 4 * k) 32 2 false W H2.out
          simp only [Int.natCast_add, Int.natCast_mul, Int.cast_ofNat_Int] at hof
          have HOF := Lib.hid hof
          clear hof
          go_wp2_with fail
          refine (HOF.out _).mono ?_
          rintro e w2 ⟨rfl, rfl⟩
          go_wp2_with fail
          refine (put_stI (by omega) (HR.out.alloc _) H1.out reads_one).mono ?_
          rintro e w3 ⟨rfl, hr3⟩
          have HR3 := Lib.hid hr3
          clear hr3
          go_wp2_with fail
          go_roundw
          case rel => exact ⟨k + 1, by omega, by go_num, HR3.out⟩
          case measure => simp [intOf]; omega
        · obtain rfl : k = 10 := by omega
          go_wp2_with fail
          have HS3 := Lib.hid HR.out
          clear HR HS2 hlt hk
          rw [show ((10 : Nat) : Int) = 10 from rfl]
          go_loopw [6] (fun i wr => ∃ k : Nat, k ≤ 26 ∧ i = .int .i32 (97 + (k : Int)) ∧ RSt w.heap.size w wr w.heap.size (w.heap.size + 1) (16 + 2 * k)) (fun i _ => 123 - (intOf i).toNat)
          case atStart => exact ⟨0, by omega, rfl, HS3.out⟩
          case round =>
            obtain ⟨k, hk, rfl, hr⟩ := hrel
            have HR := Lib.hid hr
            clear hr
            by_cases hlt : k < 26
            · obtain ⟨h1, h2⟩ := root_low k hlt
              have H1 := Lib.hid h1
              have H2 := Lib.hid h2
              clear h1 h2
              go_wp2_with fail
              refine (letter_any k 2 _ hlt (by decide)).mono ?_
              rintro e w2 ⟨rfl, rfl⟩
              go_wp2_with fail
              refine (put_stI (by omega) (HR.out.alloc _) H1.out reads_one).mono ?_
              rintro e w3 ⟨rfl, hr3⟩
              have HR3 := Lib.hid hr3
              clear hr3
              go_wp2_with fail
              refine (letter_any k 8 _ hlt (by decide)).mono ?_
              rintro e w2 ⟨rfl, rfl⟩
              go_wp2_with fail
              refine (put_stI (by omega) (HR3.out.alloc _) H2.out reads_one).mono ?_
              rintro e w4 ⟨rfl, hr4⟩
              have HR4 := Lib.hid hr4
              clear hr4
              go_wp2_with fail
              go_roundw
              case rel => exact ⟨k + 1, by omega, by go_num, HR4.out⟩
              case measure => simp [intOf]; omega
            · obtain rfl : k = 26 := by omega
              go_wp2_with fail
              have HS4 := Lib.hid HR.out
              clear HR HS3 hlt hk
              rw [show 97 + ((26 : Nat) : Int) = 123 from rfl]
              go_loopw [62] (fun i wr => ∃ k : Nat, k ≤ 8 ∧ i = .int .i64 k ∧ RSt w.heap.size w wr w.heap.size (w.heap.size + 1) (68 + k)) (fun i _ => 8 - (intOf i).toNat)
              case atStart => exact ⟨0, by omega, rfl, HS4.out⟩
              case round =>
                obtain ⟨k, hk, rfl, hr⟩ := hrel
                have HR := Lib.hid hr
                clear hr
                by_cases hlt : k < 8
                · obtain ⟨m, h1, h2, h3⟩ := root_mk k hlt
                  have hix := mark_index k hlt m h1
                  have H2 := Lib.hid h2
                  have H3 := Lib.hid h3
                  clear h1 h2 h3
                  go_wp2_with fail
                  refine (mark_w _ H2.out).mono ?_
                  rintro e w2 ⟨rfl, rfl⟩
                  go_wp2_with fail
                  refine (put_st (HR.out.alloc _) H3.out reads_one).mono ?_
                  rintro e w3 ⟨rfl, hr3⟩
                  have HR3 := Lib.hid hr3
                  clear hr3
                  go_wp2_with fail
                  go_roundw
                  case rel => exact ⟨k + 1, by omega, by go_num, HR3.out⟩
                  case measure => simp [intOf]; omega
                · obtain rfl : k = 8 := by omega
                  go_wp2_with fail
                  have HS5 := Lib.hid HR.out
                  clear HR HS4 hlt hk
                  rw [show ((8 : Nat) : Int) = 8 from rfl]
                  generalize hR : wr.heap.size = R
                  have hg : RS5 w.heap.size w ((((((((wr.alloc (.cells #[.int .i64 768, .int .i64 769, .int .i64 770, .int .i64 771, .int .i64 776, .int .i64 778] 3)).alloc (.cells #[.int .i64 807] 3)).alloc (.cells #[.int .i64 768, .int .i64 769, .int .i64 770, .int .i64 776] 3)).alloc (.cells #[.int .i64 768, .int .i64 769, .int .i64 770, .int .i64 776] 3)).alloc (.cells #[.int .i64 771] 3)).alloc (.cells #[.int .i64 768, .int .i64 769, .int .i64 770, .int .i64 771, .int .i64 776] 3)).alloc (.cells #[.int .i64 768, .int .i64 769, .int .i64 770, .int .i64 776] 3)).alloc (.cells #[.int .i64 769] 3))
                      w.heap.size (w.heap.size + 1) 76 (.slice (some ⟨R, 0, none⟩) 6 6) (.slice (some ⟨R + 1, 0, none⟩) 1 1) (.slice (some ⟨R + 1 + 1, 0, none⟩) 4 4) (.slice (some ⟨R + 1 + 1 + 1, 0, none⟩) 4 4) (.slice (some ⟨R + 1 + 1 + 1 + 1, 0, none⟩) 1 1) (.slice (some ⟨R + 1 + 1 + 1 + 1 + 1, 0, none⟩) 5 5) (.slice (some ⟨R + 1 + 1 + 1 + 1 + 1 + 1, 0, none⟩) 4 4) (.slice (some ⟨R + 1 + 1 + 1 + 1 + 1 + 1 + 1, 0, none⟩) 1 1) := by
                    subst hR
                    exact grp_start HS5.out
                  generalize ((((((((wr.alloc (.cells #[.int .i64 768, .int .i64 769, .int .i64 770, .int .i64 771, .int .i64 776, .int .i64 778] 3)).alloc (.cells #[.int .i64 807] 3)).alloc (.cells #[.int .i64 768, .int .i64 769, .int .i64 770, .int .i64 776] 3)).alloc (.cells #[.int .i64 768, .int .i64 769, .int .i64 770, .int .i64 776] 3)).alloc (.cells #[.int .i64 771] 3)).alloc (.cells #[.int .i64 768, .int .i64 769, .int .i64 770, .int .i64 771, .int .i64 776] 3)).alloc (.cells #[.int .i64 768, .int .i64 769, .int .i64 770, .int .i64 776] 3)).alloc (.cells #[.int .i64 769] 3)) = W5 at hg ⊢
                  generalize Value.slice (some ⟨R, 0, none⟩) 6 6 = v0 at hg ⊢
                  generalize Value.slice (some ⟨R + 1, 0, none⟩) 1 1 = v1 at hg ⊢
                  generalize Value.slice (some ⟨R + 1 + 1, 0, none⟩) 4 4 = v2 at hg ⊢
                  generalize Value.slice (some ⟨R + 1 + 1 + 1, 0, none⟩) 4 4 = v3 at hg ⊢
                  generalize Value.slice (some ⟨R + 1 + 1 + 1 + 1, 0, none⟩) 1 1 = v4 at hg ⊢
                  generalize Value.slice (some ⟨R + 1 + 1 + 1 + 1 + 1, 0, none⟩) 5 5 = v5 at hg ⊢
                  generalize Value.slice (some ⟨R + 1 + 1 + 1 + 1 + 1 + 1, 0, none⟩) 4 4 = v6 at hg ⊢
                  generalize Value.slice (some ⟨R + 1 + 1 + 1 + 1 + 1 + 1 + 1, 0, none⟩) 1 1 = v7 at hg ⊢
                  have HG5 := Lib.hid hg
                  clear hg hR
                  go_loopw [89] (fun i wr => ∃ k : Nat, k ≤ 8 ∧ i = .int .i64 k ∧ RS5 w.heap.size w wr w.heap.size (w.heap.size + 1) (grpO k) v0 v1 v2 v3 v4 v5 v6 v7) (fun i _ => 8 - (intOf i).toNat)
                  case atStart => exact ⟨0, by omega, rfl, HG5.out⟩
                  case round =>
                    obtain ⟨j, hj, rfl, hr⟩ := hrel
                    have HR := Lib.hid hr
                    clear hr
                    by_cases hlt : j < 8
                    · obtain ⟨g1, g2, g3, g4⟩ := root_grp j hlt
                      have G4 := Lib.hid g4
                      clear g4
                      obtain ⟨g, c, hv⟩ := HR.out.grp.open hlt
                      have hj8 : decide ((j : Int) < 8) = true := by simp; omega
                      have hix := grp_index v0 v1 v2 v3 v4 v5 v6 v7 j hlt
                      rw [hv] at hix
                      have HV := Lib.hid hv
                      clear hv
                      go_wp2_with fail
                      have HX0 := Lib.hid (show RS6 w.heap.size w (wr.alloc (.cells #[.int .i64 (grpF j), .int .i32 (97 + (grpC j : Int)), .slice (some ⟨g, 0, none⟩) (grpM j).length c] 130)) w.heap.size (w.heap.size + 1) (grpO j) v0 v1 v2 v3 v4 v5 v6 v7 wr.heap.size j from
                        ⟨HR.out.ext ((Ext.refl _).alloc _), by rw [HV.out]; exact Blk.new _ _ _ rfl⟩)
                      generalize wr.alloc (.cells #[.int .i64 (grpF j), .int .i32 (97 + (grpC j : Int)), .slice (some ⟨g, 0, none⟩) (grpM j).length c] 130) = W6 at HX0 ⊢
                      generalize hX : wr.heap.size = X at HX0 ⊢
                      clear hX
                      go_loopw [95] (fun i wr => ∃ k : Nat, k ≤ (grpM j).length ∧ i = .int .i64 k ∧ RS6 w.heap.size w wr w.heap.size (w.heap.size + 1) (grpO j + 2 * k) v0 v1 v2 v3 v4 v5 v6 v7 X j) (fun i _ => (grpM j).length - (intOf i).toNat)
                      case atStart => exact ⟨0, by omega, rfl, HX0.out⟩
                      case round =>
                        obtain ⟨i, hi, rfl, hr⟩ := hrel
                        have HR6 := Lib.hid hr
                        clear hr
                        by_cases hli : i < (grpM j).length
                        · have H1 := Lib.hid (root_grp2 j hlt i hli)
                          have H2 := Lib.hid (root_grp3 j hlt i hli)
                          have H3 := Lib.hid (root_grp4 j hlt i hli)
                          have hcell := HR6.out.grp.cells hlt HV.out i hli
                          generalize (grpM j).getD i 0 = m at H1 H2 H3 hcell
                          go_wp2_with fail
                          clear hcell
                          have HF := Lib.hid (show ∀ W, Ext wr W → (∀ o, W.cell? ⟨X, o, none⟩ = #[.int .i64 (grpF j), .int .i32 (97 + (grpC j : Int)), .slice (some ⟨g, 0, none⟩) (grpM j).length c][o]?) from fun W hW => by
                            have := (HR6.out.x.keep hW).cell
                            rw [HV.out] at this
                            exact this)
                          refine wp_par 11 (fun
                              | 0 => fun v _ => v = .func (.func 37) #[] #[.pointer (some ⟨w.heap.size + 1, 0, none⟩)]
                              | 1 => fun v _ => v = .pointer (some ⟨X, 0, none⟩)
                              | 2 => fun v _ => v = .int .i64 (grpF j)
                              | 3 => fun v _ => v = .int .i64 i
                              | 4 => fun v _ => v = .int .i64 ((grpF j : Int) + i)
                              | 5 => fun v _ => v = .pointer (some ⟨X, 1, none⟩)
                              | 6 => fun v _ => v = .int .i32 (97 + (grpC j : Int))
                              | 7 => fun v _ => v = .int .u32 ((low (grpC j) 8).word : Int)
                              | 8 => fun v _ => v = .int .i64 m
                              | 9 => fun v _ => v = .int .u32 ((mk (markW m)).word : Int)
                              | 10 => readsTwo (low (grpC j) 8) (mk (markW m))
                              | _ => fun _ _ => True) (by kernel_rfl) (by kernel_rfl) (by kernel_rfl) ?_ ?_
                          · simp (maxSteps := 20000000) only [List.take_succ_cons, List.take_zero, ParAll, Act.put, List.setIfInBounds_toArray, List.set_cons_succ, List.set_cons_zero]
                            refine ⟨?_, ?_, ?_, ?_, ?_, ?_, ?_, ?_, ?_, ?_, ?_, trivial⟩
                            · intro vals W hx hd
                              have hW := HF.out W hx
                              simp [PDeps, pdeps, Region.binds] at hd
                              first
                                | refine ParOb.plain rfl ?_
                                | refine ParOb.wanted (by simp [Region.wanted, yielded, hd]) ?_
                              go_simp
                              exact ParPost.same fun _ _ => rfl
                            · intro vals W hx hd
                              have hW := HF.out W hx
                              simp [PDeps, pdeps, Region.binds] at hd
                              first
                                | refine ParOb.plain rfl ?_
                                | refine ParOb.wanted (by simp [Region.wanted, yielded, hd]) ?_
                              go_simp
                              exact ParPost.same fun _ _ => rfl
                            · intro vals W hx hd
                              have hW := HF.out W hx
                              simp [PDeps, pdeps, Region.binds] at hd
                              first
                                | refine ParOb.plain rfl ?_
                                | refine ParOb.wanted (by simp [Region.wanted, yielded, hd]) ?_
                              go_simp
                              exact ParPost.same fun _ _ => rfl
                            · intro vals W hx hd
                              have hW := HF.out W hx
                              simp [PDeps, pdeps, Region.binds] at hd
                              first
                                | refine ParOb.plain rfl ?_
                                | refine ParOb.wanted (by simp [Region.wanted, yielded, hd]) ?_
                              go_simp
                              exact ParPost.same fun _ _ => rfl
                            · intro vals W hx hd
                              have hW := HF.out W hx
                              simp [PDeps, pdeps, Region.binds] at hd
                              first
                                | refine ParOb.plain rfl ?_
                                | refine ParOb.wanted (by simp [Region.wanted, yielded, hd]) ?_
                              have hsum := IntWalk.i64_in ((grpF j : Int) + i) (by omega)
                              go_simp
                              exact ParPost.same fun _ _ => rfl
                            · intro vals W hx hd
                              have hW := HF.out W hx
                              simp [PDeps, pdeps, Region.binds] at hd
                              first
                                | refine ParOb.plain rfl ?_
                                | refine ParOb.wanted (by simp [Region.wanted, yielded, hd]) ?_
                              go_simp
                              exact ParPost.same fun _ _ => rfl
                            · intro vals W hx hd
                              have hW := HF.out W hx
                              simp [PDeps, pdeps, Region.binds] at hd
                              first
                                | refine ParOb.plain rfl ?_
                                | refine ParOb.wanted (by simp [Region.wanted, yielded, hd]) ?_
                              go_simp
                              exact ParPost.same fun _ _ => rfl
                            · intro vals W hx hd
                              have hW := HF.out W hx
                              simp [PDeps, pdeps, Region.binds] at hd
                              first
                                | refine ParOb.plain rfl ?_
                                | refine ParOb.wanted (by simp [Region.wanted, yielded, hd]) ?_
                              go_simp
                              refine (letter_any (grpC j) 8 W g1 (by decide)).mono ?_
                              rintro e w2 ⟨rfl, rfl⟩
                              exact ⟨_, rfl, Ext.refl _, fun _ _ => rfl⟩
                            · intro vals W hx hd
                              have hW := HF.out W hx
                              simp [PDeps, pdeps, Region.binds] at hd
                              first
                                | refine ParOb.plain rfl ?_
                                | refine ParOb.wanted (by simp [Region.wanted, yielded, hd]) ?_
                              go_simp
                              exact ParPost.same fun _ _ => rfl
                            · intro vals W hx hd
                              have hW := HF.out W hx
                              simp [PDeps, pdeps, Region.binds] at hd
                              first
                                | refine ParOb.plain rfl ?_
                                | refine ParOb.wanted (by simp [Region.wanted, yielded, hd]) ?_
                              go_simp
                              refine (mark_w W H1.out).mono ?_
                              rintro e w2 ⟨rfl, rfl⟩
                              exact ⟨_, rfl, Ext.refl _, fun _ _ => rfl⟩
                            · intro vals W hx hd
                              have hW := HF.out W hx
                              simp [PDeps, pdeps, Region.binds] at hd
                              first
                                | refine ParOb.plain rfl ?_
                                | refine ParOb.wanted (by simp [Region.wanted, yielded, hd]) ?_
                              go_simp
                              exact ⟨(Ext.refl _).alloc _, fun w2 h2 => reads_two.ext h2⟩
                          intro vals W hx hf
                          simp (maxSteps := 20000000) only [ParFacts, List.take_succ_cons, List.take_zero, and_true, Nat.reduceAdd] at hf
                          obtain ⟨f0, f1, f2, f3, f4, f5, f6, f7, f8, f9, f10⟩ := hf
                          simp (maxSteps := 20000000) only [List.drop_succ_cons, List.drop_zero, List.take_succ_cons, List.take_zero, ParEnd, Act.put, List.setIfInBounds_toArray, List.set_cons_succ, List.set_cons_zero, Nat.reduceAdd, f0, f1, f2, f3, f4, f5, f6, f7, f8, f9]
                          clear f0 f1 f2 f3 f4 f5 f6 f7 f8 f9
                          generalize vals 10 = y10 at f10 ⊢
                          have HX6 := Lib.hid (HR6.out.ext hx)
                          have HF10 := Lib.hid f10
                          clear hx f10
                          go_wp2_with fail
                          refine (put_stG (by omega) HX6.out.st H2.out HF10.out).mono ?_
                          rintro e w7 ⟨rfl, hr7, hg7⟩
                          have HR7 := Lib.hid (HX6.out.put ⟨hr7, hg7⟩)
                          clear hr7 hg7
                          go_wp2_with fail
                          have HF2 := Lib.hid (show ∀ W, Ext w7 W → (∀ o, W.cell? ⟨X, o, none⟩ = #[.int .i64 (grpF j), .int .i32 (97 + (grpC j : Int)), .slice (some ⟨g, 0, none⟩) (grpM j).length c][o]?) from fun W hW => by
                            have := (HR7.out.x.keep hW).cell
                            rw [HV.out] at this
                            exact this)
                          refine wp_par 12 (fun
                              | 0 => fun v _ => v = .func (.func 37) #[] #[.pointer (some ⟨w.heap.size + 1, 0, none⟩)]
                              | 1 => fun v _ => v = .pointer (some ⟨X, 0, none⟩)
                              | 2 => fun v _ => v = .int .i64 (grpF j)
                              | 3 => fun v _ => v = .int .i64 i
                              | 4 => fun v _ => v = .int .i64 ((grpF j : Int) + i)
                              | 5 => fun v _ => v = .int .i64 ((grpF j : Int) + i + 32)
                              | 6 => fun v _ => v = .pointer (some ⟨X, 1, none⟩)
                              | 7 => fun v _ => v = .int .i32 (97 + (grpC j : Int))
                              | 8 => fun v _ => v = .int .u32 ((low (grpC j) 2).word : Int)
                              | 9 => fun v _ => v = .int .i64 m
                              | 10 => fun v _ => v = .int .u32 ((mk (markW m)).word : Int)
                              | 11 => readsTwo (low (grpC j) 2) (mk (markW m))
                              | _ => fun _ _ => True) (by kernel_rfl) (by kernel_rfl) (by kernel_rfl) ?_ ?_
                          · simp (maxSteps := 20000000) only [List.take_succ_cons, List.take_zero, ParAll, Act.put, List.setIfInBounds_toArray, List.set_cons_succ, List.set_cons_zero]
                            refine ⟨?_, ?_, ?_, ?_, ?_, ?_, ?_, ?_, ?_, ?_, ?_, ?_, trivial⟩
                            · intro vals W hx hd
                              have hW := HF2.out W hx
                              simp [PDeps, pdeps, Region.binds] at hd
                              first
                                | refine ParOb.plain rfl ?_
                                | refine ParOb.wanted (by simp [Region.wanted, yielded, hd]) ?_
                              go_simp
                              exact ParPost.same fun _ _ => rfl
                            · intro vals W hx hd
                              have hW := HF2.out W hx
                              simp [PDeps, pdeps, Region.binds] at hd
                              first
                                | refine ParOb.plain rfl ?_
                                | refine ParOb.wanted (by simp [Region.wanted, yielded, hd]) ?_
                              go_simp
                              exact ParPost.same fun _ _ => rfl
                            · intro vals W hx hd
                              have hW := HF2.out W hx
                              simp [PDeps, pdeps, Region.binds] at hd
                              first
                                | refine ParOb.plain rfl ?_
                                | refine ParOb.wanted (by simp [Region.wanted, yielded, hd]) ?_
                              go_simp
                              exact ParPost.same fun _ _ => rfl
                            · intro vals W hx hd
                              have hW := HF2.out W hx
                              simp [PDeps, pdeps, Region.binds] at hd
                              first
                                | refine ParOb.plain rfl ?_
                                | refine ParOb.wanted (by simp [Region.wanted, yielded, hd]) ?_
                              go_simp
                              exact ParPost.same fun _ _ => rfl
                            · intro vals W hx hd
                              have hW := HF2.out W hx
                              simp [PDeps, pdeps, Region.binds] at hd
                              first
                                | refine ParOb.plain rfl ?_
                                | refine ParOb.wanted (by simp [Region.wanted, yielded, hd]) ?_
                              have hsum := IntWalk.i64_in ((grpF j : Int) + i) (by omega)
                              go_simp
                              exact ParPost.same fun _ _ => rfl
                            · intro vals W hx hd
                              have hW := HF2.out W hx
                              simp [PDeps, pdeps, Region.binds] at hd
                              first
                                | refine ParOb.plain rfl ?_
                                | refine ParOb.wanted (by simp [Region.wanted, yielded, hd]) ?_
                              have hsum := IntWalk.i64_in ((grpF j : Int) + i + 32) (by omega)
                              go_simp
                              exact ParPost.same fun _ _ => rfl
                            · intro vals W hx hd
                              have hW := HF2.out W hx
                              simp [PDeps, pdeps, Region.binds] at hd
                              first
                                | refine ParOb.plain rfl ?_
                                | refine ParOb.wanted (by simp [Region.wanted, yielded, hd]) ?_
                              go_simp
                              exact ParPost.same fun _ _ => rfl
                            · intro vals W hx hd
                              have hW := HF2.out W hx
                              simp [PDeps, pdeps, Region.binds] at hd
                              first
                                | refine ParOb.plain rfl ?_
                                | refine ParOb.wanted (by simp [Region.wanted, yielded, hd]) ?_
                              go_simp
                              exact ParPost.same fun _ _ => rfl
                            · intro vals W hx hd
                              have hW := HF2.out W hx
                              simp [PDeps, pdeps, Region.binds] at hd
                              first
                                | refine ParOb.plain rfl ?_
                                | refine ParOb.wanted (by simp [Region.wanted, yielded, hd]) ?_
                              go_simp
                              refine (letter_any (grpC j) 2 W g1 (by decide)).mono ?_
                              rintro e w2 ⟨rfl, rfl⟩
                              exact ⟨_, rfl, Ext.refl _, fun _ _ => rfl⟩
                            · intro vals W hx hd
                              have hW := HF2.out W hx
                              simp [PDeps, pdeps, Region.binds] at hd
                              first
                                | refine ParOb.plain rfl ?_
                                | refine ParOb.wanted (by simp [Region.wanted, yielded, hd]) ?_
                              go_simp
                              exact ParPost.same fun _ _ => rfl
                            · intro vals W hx hd
                              have hW := HF2.out W hx
                              simp [PDeps, pdeps, Region.binds] at hd
                              first
                                | refine ParOb.plain rfl ?_
                                | refine ParOb.wanted (by simp [Region.wanted, yielded, hd]) ?_
                              go_simp
                              refine (mark_w W H1.out).mono ?_
                              rintro e w2 ⟨rfl, rfl⟩
                              exact ⟨_, rfl, Ext.refl _, fun _ _ => rfl⟩
                            · intro vals W hx hd
                              have hW := HF2.out W hx
                              simp [PDeps, pdeps, Region.binds] at hd
                              first
                                | refine ParOb.plain rfl ?_
                                | refine ParOb.wanted (by simp [Region.wanted, yielded, hd]) ?_
                              go_simp
                              exact ⟨(Ext.refl _).alloc _, fun w2 h2 => reads_two.ext h2⟩
                          intro vals W hx hf
                          simp (maxSteps := 20000000) only [ParFacts, List.take_succ_cons, List.take_zero, and_true, Nat.reduceAdd] at hf
                          obtain ⟨f0, f1, f2, f3, f4, f5, f6, f7, f8, f9, f10, f11⟩ := hf
                          simp (maxSteps := 20000000) only [List.drop_succ_cons, List.drop_zero, List.take_succ_cons, List.take_zero, ParEnd, Act.put, List.setIfInBounds_toArray, List.set_cons_succ, List.set_cons_zero, Nat.reduceAdd, f0, f1, f2, f3, f4, f5, f6, f7, f8, f9, f10]
                          clear f0 f1 f2 f3 f4 f5 f6 f7 f8 f9 f10
                          generalize vals 11 = y11 at f11 ⊢
                          have HX8 := Lib.hid (HR7.out.ext hx)
                          have HF11 := Lib.hid f11
                          clear hx f11
                          go_wp2_with fail
                          refine (put_stG (by omega) HX8.out.st H3.out HF11.out).mono ?_
                          rintro e w9 ⟨rfl, hr9, hg9⟩
                          have HR9 := Lib.hid (HX8.out.put ⟨hr9, hg9⟩)
                          clear hr9 hg9
                          go_wp2_with fail
                          go_roundw
                          case rel => exact ⟨i + 1, by omega, by go_num, HR9.out⟩
                          case measure => simp [intOf]; omega
                        · obtain rfl : i = (grpM j).length := by omega
                          go_wp2_with fail
                          go_roundw
                          case rel => exact ⟨j + 1, by omega, by go_num, by rw [G4.out]; exact HR6.out.toRS5⟩
                          case measure => simp [intOf]; omega
                    · obtain rfl : j = 8 := by omega
                      go_wp2_with fail
                      have HR8 := Lib.hid HR.out.st
                      clear HR
                      refine (letter_any 18 4 _ (by decide) (by decide)).mono ?_
                      rintro e w2 ⟨rfl, rfl⟩
                      go_wp2_with fail
                      refine (letter_any 18 4 _ (by decide) (by decide)).mono ?_
                      rintro e w2 ⟨rfl, rfl⟩
                      go_wp2_with fail
                      refine (put_stI (c := 223) rfl (HR8.out.alloc _) (show rootL[128]? = some (223, [low 18 4, low 18 4]) by decide +kernel) reads_two).mono ?_
                      rintro e wa ⟨rfl, hra⟩
                      have HRa := Lib.hid hra
                      clear hra
                      go_wp2_with fail
                      refine (letter_any 0 10 _ (by decide) (by decide)).mono ?_
                      rintro e w2 ⟨rfl, rfl⟩
                      go_wp2_with fail
                      refine (letter_any 4 10 _ (by decide) (by decide)).mono ?_
                      rintro e w2 ⟨rfl, rfl⟩
                      go_wp2_with fail
                      refine (put_stI (c := 198) rfl (HRa.out.alloc _) (show rootL[129]? = some (198, [low 0 10, low 4 10]) by decide +kernel) reads_two).mono ?_
                      rintro e wb ⟨rfl, hrb⟩
                      have HRb := Lib.hid hrb
                      clear hrb
                      go_wp2_with fail
                      refine (letter_any 0 4 _ (by decide) (by decide)).mono ?_
                      rintro e w2 ⟨rfl, rfl⟩
                      go_wp2_with fail
                      refine (letter_any 4 4 _ (by decide) (by decide)).mono ?_
                      rintro e w2 ⟨rfl, rfl⟩
                      go_wp2_with fail
                      refine (put_stI (c := 230) rfl (HRb.out.alloc _) (show rootL[130]? = some (230, [low 0 4, low 4 4]) by decide +kernel) reads_two).mono ?_
                      rintro e wc ⟨rfl, hrc⟩
                      have HRc := Lib.hid hrc
                      clear hrc
                      go_wp2_with fail
                      refine (put_stI (c := 173) rfl HRc.out (show rootL[131]? = some (173, []) by decide +kernel) (.inl ⟨rfl, rfl⟩)).mono ?_
                      rintro e wd ⟨rfl, hrd⟩
                      have HRd := Lib.hid hrd
                      clear hrd
                      obtain ⟨cq, fq⟩ := HRd.out.cell.facts
                      go_wp2_with fail
                      clear cq fq
                      refine (HB.out wd HRd.out).mono ?_
                      rintro e we ⟨v, rfl, hbe⟩
                      have HBe := Lib.hid hbe
                      clear hbe
                      go_wp2_with fail
                      go_ret
                      exact ⟨v, rfl, HBe.out⟩
end Go.Proofs.YtchpbdodlbghaaaGreatDoor
