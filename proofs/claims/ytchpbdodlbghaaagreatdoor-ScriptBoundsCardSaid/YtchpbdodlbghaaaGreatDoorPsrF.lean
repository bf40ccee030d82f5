import Derived.Deep.LoopGhost
import Derived.Test.YtchpbdodlbghaaaGreatDoorParD
import Derived.Test.YtchpbdodlbghaaaGreatDoorPsrC
namespace Go.Proofs.YtchpbdodlbghaaaGreatDoor
open Go.RowKit Go.Lib
set_option maxRecDepth 100000

def cellsB (b : Int × List UInt8 × Int) : List Value := [.int .i64 b.1, .string ⟨b.2.1.toArray⟩, .int .i64 b.2.2]
theorem flatB_get : ∀ (L : List (Int × List UInt8 × Int)) (i : Nat) (b : Int × List UInt8 × Int), L[i]? = some b → ∀ j, j < 3 → (L.flatMap cellsB)[i * 3 + j]? = (cellsB b)[j]?
  | y :: L, 0, b, h, j, hj => by
    obtain rfl : y = b := by simpa using h
    rw [Nat.zero_mul, Nat.zero_add]
    simp only [List.flatMap_cons]
    rw [List.getElem?_append_left (by simp [cellsB]; omega)]
  | y :: L, i + 1, b, h, j, hj => by
    have ih := flatB_get L i b (by simpa using h) j hj
    simp only [List.flatMap_cons]
    rw [List.getElem?_append_right (by simp [cellsB]; omega), ← ih]
    congr 1
    simp [cellsB]; omega
def BinAt (w : World) (v : Value) (L : List (Int × List UInt8 × Int)) : Prop := ∃ a cap, v = .slice a L.length cap ∧ L.length ≤ cap ∧ ∀ (i : Nat) (b : Int × List UInt8 × Int), L[i]? = some b → ∃ g, a = some ⟨g, 0, none⟩ ∧ g < w.heap.size ∧
  w.cell? ⟨g, i * 3, none⟩ = some (.int .i64 b.1) ∧ w.cell? ⟨g, i * 3 + 1, none⟩ = some (.string ⟨b.2.1.toArray⟩) ∧ w.cell? ⟨g, i * 3 + 2, none⟩ = some (.int .i64 b.2.2)
theorem binAt_of {w : World} {g n : Nat} {t : TypeId} (L : List (Int × List UInt8 × Int)) (hn : n = L.length) (h : Blk w g (L.flatMap cellsB).toArray t) : BinAt w (.slice (some ⟨g, 0, none⟩) n n) L :=
  ⟨_, n, by rw [hn], by omega, fun i b hb => by
    have hc : ∀ j, j < 3 → w.cell? ⟨g, i * 3 + j, none⟩ = (cellsB b)[j]? := fun j hj => by
      rw [h.cell, List.getElem?_toArray, flatB_get L i b hb j hj]
    exact ⟨g, rfl, h.lt, hc 0 (by omega), hc 1 (by omega), hc 2 (by omega)⟩⟩
theorem binAt_nil (w : World) : BinAt w (.slice none 0 0) [] := ⟨_, _, rfl, Nat.le_refl _, fun i b hb => by cases hb⟩
set_option maxHeartbeats 8000000 in
theorem binaries_any (k : Nat) (hk : k ≤ 12) (w : World) :
    Calls Tryz.prog 531 #[.int .i64 k] w fun e w' => (∃ v, e = .returned v ∧ BinAt w' v (binsL k)) ∧ Ext w w' := by
  rcases (by omega : k = 0 ∨ k = 1 ∨ k = 2 ∨ k = 3 ∨ k = 4 ∨ k = 5 ∨ k = 6 ∨ k = 7 ∨ k = 8 ∨ k = 9 ∨ k = 10 ∨ k = 11 ∨ k = 12) with rfl | rfl | rfl | rfl | rfl | rfl | rfl | rfl | rfl | rfl | rfl | rfl | rfl
  all_goals
    simp only [binsL]
    go_enter Tryz.func531, Tryz.ntmps531
    go_wp2
    go_returns
    first
      | exact ⟨⟨_, rfl, binAt_nil _⟩, Ext.refl _⟩
      | (refine ⟨⟨_, rfl, ?_⟩, (Ext.refl _).alloc _⟩
         refine binAt_of (t := 661) _ rfl ?_
         exact Blk.new w _ 661 rfl)
def findF (T : List Lx.Tok) (s : PSt) : List (Int × List UInt8 × Int) → Int × PSt
  | [] => (0, s)
  | b :: L => if isB T s b.1 b.2.1 then (b.2.2, { s with i := s.i + 1 }) else findF T s L
theorem findF_drop (T : List Lx.Tok) (s : PSt) : ∀ (L : List (Int × List UInt8 × Int)) (j : Nat) (b : Int × List UInt8 × Int), L[j]? = some b → isB T s b.1 b.2.1 = false → findF T s (L.drop j) = findF T s (L.drop (j + 1))
  | y :: L, 0, b, h, hb => by
    obtain rfl : y = b := by simpa using h
    simp only [List.drop_zero, List.drop_succ_cons, findF, hb]
    rfl
  | y :: L, j + 1, b, h, hb => by
    simp only [List.drop_succ_cons]
    exact findF_drop T s L j b (by simpa using h) hb
set_option maxHeartbeats 8000000 in
theorem find_any (k : Nat) (hk : k ≤ 12) (p g cap long : Nat) (T : List Lx.Tok) (s : PSt) (w : World) (h : PsAt w p g cap long T s) :
    Calls Tryz.prog 454 #[.pointer (some ⟨p, 0, none⟩), .int .i64 k] w fun e w' => e = .returned (.int .i64 (findF T s (binsL k)).1) ∧ PsAt w' p g cap long T (findF T s (binsL k)).2 ∧ LeP p w w' := by
  have HP := Lib.hid h
  have KB := Lib.hid (fun W => binaries_any k hk W)
  have KI := Lib.hid (fun kind text W (hW : PsAt W p g cap long T s) => is_any p g cap long T s kind text W hW)
  have hlen : (binsL k).length ≤ 6 := by
    rcases (by omega : k = 0 ∨ k = 1 ∨ k = 2 ∨ k = 3 ∨ k = 4 ∨ k = 5 ∨ k = 6 ∨ k = 7 ∨ k = 8 ∨ k = 9 ∨ k = 10 ∨ k = 11 ∨ k = 12) with rfl | rfl | rfl | rfl | rfl | rfl | rfl | rfl | rfl | rfl | rfl | rfl | rfl <;> decide
  generalize binsL k = L at KB hlen ⊢
  obtain ⟨R, hR⟩ : ∃ R, R = findF T s L := ⟨_, rfl⟩
  rw [← hR]
  have HRf := Lib.hid hR
  clear h hk hR
  go_enter Tryz.func454, Tryz.ntmps454
  go_wp2_with fail
  refine Calls.mono (KB.out _) ?_
  rintro e W0 ⟨⟨v, rfl, a, bcap, rfl, hbc, hc⟩, hx0⟩
  have HC := Lib.hid hc
  have HX0 := Lib.hid hx0
  clear hc hx0 KB
  go_simp
  repeat (first | go_values | go_skip | go_guarded | go_step | go_upon)
  go_loopw [4, 6, 10] (fun _ _ i wr => ∃ j : Nat, j ≤ L.length ∧ i = .int .i64 j ∧ Ext W0 wr ∧ findF T s (L.drop j) = R) (fun _ _ i _ => L.length - (intOf i).toNat)
  case atStart => exact ⟨0, Nat.zero_le _, rfl, Ext.refl _, HRf.out.symm⟩
  case round =>
    obtain ⟨j, hj, rfl, hx, hf⟩ := hrel
    have HX := Lib.hid (Ext.trans HX0.out hx)
    have HX2 := Lib.hid hx
    have HFd := Lib.hid hf
    clear hx hf
    by_cases hlt : j < L.length
    · have hltI : (j : Int) < (L.length : Int) := by omega
      obtain ⟨b, hbe⟩ : ∃ b, L[j]? = some b := ⟨_, List.getElem?_eq_getElem hlt⟩
      obtain ⟨gb, rfl, hgb, c0, c1, c2⟩ := HC.out j b hbe
      have HBE := Lib.hid hbe
      have d0 := (HX2.out.cell (p := ⟨gb, j * 3, none⟩) hgb).trans c0
      have d1 := (HX2.out.cell (p := ⟨gb, j * 3 + 1, none⟩) hgb).trans c1
      have d2 := (HX2.out.cell (p := ⟨gb, j * 3 + 2, none⟩) hgb).trans c2
      have hbl : gb < wr.heap.size := Nat.lt_of_lt_of_le hgb HX2.out.size
      obtain ⟨bk, bt, bo⟩ := b
      simp only at d0 d1 d2
      clear c0 c1 c2 hgb hbe
      have hx1 : Ext wr (wr.alloc (.cells #[.int .i64 bk, .string ⟨bt.toArray⟩, .int .i64 bo] 661)) := (Ext.refl wr).alloc _
      go_simp
      repeat (first | go_values | go_skip | go_guarded | go_step | go_upon)
      refine Calls.mono (KI.out _ _ _ (HP.out.ext (Ext.trans HX.out hx1))) ?_
      rintro e W2 ⟨rfl, hb2⟩
      have HD := Lib.hid ((Blk.new wr #[.int .i64 bk, .string ⟨bt.toArray⟩, .int .i64 bo] 661 rfl).keep hb2)
      have HX3 := Lib.hid (Ext.trans hx1 hb2)
      clear hx1 hb2 d0 d1 d2 hbl
      rw [bsl_mk]
      cases hB : isB T s bk bt
      · go_wp2_with fail
        go_roundw
        case measure => simp [intOf]; omega
        case rel =>
        refine ⟨u4, .pointer (some ⟨wr.heap.size, 0, none⟩), .int .i64 ((j + 1 : Nat) : Int), ⟨j + 1, by omega, rfl, Ext.trans HX2.out HX3.out, ?_⟩, by simp⟩
        rw [← HFd.out]
        exact (findF_drop T s L j _ HBE.out hB).symm
      · have hP := HP.out.ext (Ext.trans HX.out HX3.out)
        have hl := isB_lt hB
        have hle := hP.few
        have HB := Lib.hid hP.blk
        obtain rfl : R = (bo, { s with i := s.i + 1 }) := by
          rw [← HFd.out, List.drop_eq_getElem_cons hlt]
          have e := Option.some.inj ((List.getElem?_eq_getElem hlt).symm.trans HBE.out)
          rw [e]
          simp only [findF, hB, if_true]
        have HPP := Lib.hid hP
        have HLL := Lib.hid (LeP.ofExt (p := p) (Ext.trans HX.out HX3.out))
        clear hP HBE HFd hB HRf
        obtain ⟨i, deep, at_, er⟩ := s
        simp only [psC] at HB hl
        obtain ⟨cb, fb⟩ := HB.out.facts
        have hbl := HB.out.lt
        have hne : wr.heap.size ≠ p := by have := HP.out.blk.lt; have := HX.out.size; omega
        obtain ⟨cd, fd⟩ := HD.out.facts
        have hdl := HD.out.lt
        have hsum := IntWalk.i64_in ((i : Int) + 1) (by omega)
        go_simp
        repeat (first | go_values | go_skip | go_guarded | go_step | go_upon)
        go_returns
        refine ⟨rfl, HPP.out.set (LeP.set 1 _) ?_ hl, HLL.out.trans (LeP.set 1 _)⟩
        exact HB.out.set 1 _
    · obtain rfl : j = L.length := by omega
      have hltI : ¬ (L.length : Int) < (L.length : Int) := by omega
      obtain rfl : R = (0, s) := by rw [← HFd.out, List.drop_length]; rfl
      go_wp2_with fail
      go_returns
      exact ⟨rfl, HP.out.ext HX.out, LeP.ofExt HX.out⟩
end Go.Proofs.YtchpbdodlbghaaaGreatDoor
namespace Go.Proofs.YtchpbdodlbghaaaGreatDoor
open Go.RowKit Go.Lib
set_option maxRecDepth 100000

theorem PsAt.other6 {w : World} {p g cap long : Nat} {T : List Lx.Tok} {s : PSt} (h : PsAt w p g cap long T s) {x : Nat} (hp : p ≠ x) (hg : g ≠ x) (a b c d e f : Value) : PsAt ((((((w.setCell ⟨x, 0, none⟩ a).setCell ⟨x, 1, none⟩ b).setCell ⟨x, 2, none⟩ c).setCell ⟨x, 3, none⟩ d).setCell ⟨x, 4, none⟩ e).setCell ⟨x, 5, none⟩ f) p g cap long T s :=
  (((((h.other hp hg 0 a).other hp hg 1 b).other hp hg 2 c).other hp hg 3 d).other hp hg 4 e).other hp hg 5 f
def LevPost (p g cap long : Nat) (T : List Lx.Tok) (r : Tr) (s' : PSt) (w : World) (e : Ending) (w' : World) : Prop := ∃ x : PN, e = .returned x.v ∧ TrAt (w.heap.size ≤ ·) w' x r ∧ PsAt w' p g cap long T s' ∧ LeP p w w'
def LevOk (p g cap long : Nat) (T : List Lx.Tok) (rec : Nat → PSt → Option (Tr × PSt)) : Prop :=
  ∀ (k : Nat) (kz : Int) (s : PSt) (r : Tr) (s' : PSt) (w : World), kz = (k : Int) → k ≤ 12 → rec k s = some (r, s') → PsAt w p g cap long T s → Calls Tryz.prog 199 #[.pointer (some ⟨p, 0, none⟩), .int .i64 kz] w (LevPost p g cap long T r s' w)
structure LeV (p : Nat) (V : Array Value) (w w' : World) : Prop where
  le : LeP p w w'
  keep : Blk w p V 168 → Blk w' p V 168
theorem leV (p : Nat) (V : Array Value) : IsLe (LeV p V) :=
  ⟨fun w => ⟨LeP.refl p w, id⟩, fun h k => ⟨h.le.trans k.le, fun b => k.keep (h.keep b)⟩, fun h => ⟨⟨h.le.os, h.le.tape, h.le.out, h.le.size, h.le.old⟩, h.keep⟩⟩
theorem LeV.ofExt {p : Nat} {V : Array Value} {w w' : World} (h : Ext w w') : LeV p V w w' := ⟨LeP.ofExt h, fun b => b.keep h⟩
theorem PsAt.later {w w' : World} {p g cap long : Nat} {T : List Lx.Tok} {s : PSt} (h : PsAt w p g cap long T s) (hx : LeV p (psC g cap T.length long s) w w') : PsAt w' p g cap long T s :=
  ⟨hx.keep h.blk, h.tok.ext (hx.le.old g h.tok.1 h.ne) hx.le.size, h.ne, h.le, h.cap, h.few⟩
def readP (A : Nat → Prop) (p g cap long : Nat) (T : List Lx.Tok) (r : Tr) (s' : PSt) (v : Value) (w : World) : Prop := ∃ y : PN, v = y.v ∧ TrAt A w y r ∧ PsAt w p g cap long T s'
def pairP (A : Nat → Prop) (x : PN) (n m : Tr) (v : Value) (w : World) : Prop := ∃ (gs : Nat) (y : PN), v = .slice (some ⟨gs, 0, none⟩) 2 2 ∧ A gs ∧ PnAt w gs [x, y] ∧ TrAt A w x n ∧ TrAt A w y m
def treeP (A : Nat → Prop) (r : Tr) (v : Value) (w : World) : Prop := ∃ y : PN, v = y.v ∧ TrAt A w y r
def rowLoop (rec : Nat → PSt → Option (Tr × PSt)) (T : List Lx.Tok) (k : Nat) : Nat → Tr → PSt → Option (Tr × PSt)
  | 0, _, _ => none
  | f + 1, n, s => if (findF T s (binsL k)).1 = 0 then some (n, (findF T s (binsL k)).2) else (rec (k + 1) (findF T s (binsL k)).2).bind fun m => rowLoop rec T k f (.mk 6 (findF T s (binsL k)).1 [] [] 0 [n, m.1]) m.2
def rowF (rec : Nat → PSt → Option (Tr × PSt)) (T : List Lx.Tok) (f k : Nat) (s : PSt) : Option (Tr × PSt) := (rec (k + 1) s).bind fun n => rowLoop rec T k f n.1 n.2
end Go.Proofs.YtchpbdodlbghaaaGreatDoor
namespace Go.Proofs.YtchpbdodlbghaaaGreatDoor
open Go.RowKit Go.Lib
set_option maxRecDepth 100000

abbrev blkA (a b g : Nat) : Prop := a < g ∧ g ≠ b
theorem PsAt.row {w : World} {p g cap long : Nat} {T : List Lx.Tok} {s : PSt} (h : PsAt w p g cap long T s) {x : Nat} (hp : p ≠ x) (hg : g ≠ x) (V : Array Value) : PsAt (w.setRow x V) p g cap long T s :=
  ⟨(setRow_other w x p V hp).trans h.blk, h.tok.ext (setRow_other w x g V hg) (by simp), h.ne, h.le, h.cap, h.few⟩
def StepIs (rec : Nat → PSt → Option (Tr × PSt)) (T : List Lx.Tok) (k : Nat) (r : Tr) (s' : PSt) (f : Nat) (o : Int) (n : Tr) (s : PSt) : Prop :=
  if o = 0 then n = r ∧ s = s' else ((rec (k + 1) s).bind fun m => rowLoop rec T k f (.mk 6 o [] [] 0 [n, m.1]) m.2) = some (r, s')
theorem stepIs {rec : Nat → PSt → Option (Tr × PSt)} {T : List Lx.Tok} {k f : Nat} {r n : Tr} {s s' : PSt} (h : rowLoop rec T k (f + 1) n s = some (r, s')) : StepIs rec T k r s' f (findF T s (binsL k)).1 n (findF T s (binsL k)).2 := by
  unfold StepIs
  rw [rowLoop] at h
  split
  · rename_i ho
    rw [if_pos ho] at h
    have h := Option.some.inj h
    exact ⟨congrArg Prod.fst h, congrArg Prod.snd h⟩
  · rename_i ho
    rw [if_neg ho] at h
    exact h
set_option maxHeartbeats 16000000 in
theorem row_any (p g cap long : Nat) (T : List Lx.Tok) (rec : Nat → PSt → Option (Tr × PSt)) (hrec : LevOk p g cap long T rec) (f k : Nat) (hk : k ≤ 11) (s : PSt) (r : Tr) (s' : PSt) (w : World) (hf : rowF rec T f k s = some (r, s')) (h : PsAt w p g cap long T s) :
    Calls Tryz.prog 364 #[.pointer (some ⟨p, 0, none⟩), .int .i64 k] w (LevPost p g cap long T r s' w) := by
  have mixed : Tryz.prog.follows .mixedOrders = true := by kernel_rfl
  have KF := Lib.hid (fun (s : PSt) W (hW : PsAt W p g cap long T s) => find_any k (by omega) p g cap long T s W hW)
  have HR0 := Lib.hid (Blk.new w #[.int .i64 0, .int .i64 0, .string ⟨#[]⟩, .string ⟨#[]⟩, .int .i64 0, .slice none 0 0] 196 rfl)
  have hx0 : Ext w (w.alloc (.cells #[.int .i64 0, .int .i64 0, .string ⟨#[]⟩, .string ⟨#[]⟩, .int .i64 0, .slice none 0 0] 196)) := (Ext.refl w).alloc _
  have hpl : p < w.heap.size := h.blk.lt
  have hpw : p ≠ w.heap.size := by omega
  have hgw : g ≠ w.heap.size := by have := h.tok.1; omega
  have hwp : w.heap.size ≠ p := Ne.symm hpw
  unfold rowF at hf
  cases hr1 : rec (k + 1) s with
  | none => rw [hr1] at hf; cases hf
  | some n1 =>
    obtain ⟨n, s1⟩ := n1
    rw [hr1] at hf
    have HFf := Lib.hid (show rowLoop rec T k f n s1 = some (r, s') from hf)
    have hk1 := IntWalk.i64_in ((k : Int) + 1) (by omega)
    have KL := Lib.hid (hrec (k + 1) ((k : Int) + 1) s n s1 _ (by omega) (by omega) hr1 (h.ext hx0))
    have HRec := Lib.hid hrec
    have HP := Lib.hid h
    have HX0 := Lib.hid hx0
    clear hf hr1 hrec h hx0
    go_enter Tryz.func364, Tryz.ntmps364
    go_simp
    repeat (first | go_values | go_skip | go_guarded | go_step | go_upon)
    refine Calls.mono KL.out ?_
    rintro e W1 ⟨x, rfl, ht1, hp1, hl1⟩
    have HT1 := Lib.hid (ht1.mono (B := blkA w.heap.size W1.heap.size) fun g h1 h2 => ⟨by simp at h1; omega, by omega⟩)
    have HP1 := Lib.hid hp1
    have HL1 := Lib.hid ((LeP.ofExt HX0.out).trans hl1)
    have HR1 := Lib.hid (hl1.blk HR0.out hwp)
    clear ht1 hp1 hl1 KL HR0 HX0
    obtain ⟨xk, xo, xs, xt, xn, xla, xln, xlc⟩ := x
    simp only [PN.v]
    go_simp
    repeat (first | go_values | go_skip | go_guarded | go_step | go_upon)
    have hx1 : Ext W1 (W1.alloc (.cells #[.int .i64 xk, .int .i64 xo, .string xs, .string xt, .int .i64 xn, .slice xla xln xlc] 196)) := (Ext.refl W1).alloc _
    have hp1w : p < W1.heap.size := HP1.out.blk.lt
    have hg1w : g < W1.heap.size := HP1.out.tok.1
    have hw1 : w.heap.size < W1.heap.size := HR1.out.lt
    refine Calls.mono (KF.out s1 _ (HP1.out.ext hx1)) ?_
    rintro e W2 ⟨rfl, hp2, hl2⟩
    have hB5 : W1.heap.size ≠ p := by omega
    have HV2 := Lib.hid (hl2.blk (Blk.new W1 #[.int .i64 xk, .int .i64 xo, .string xs, .string xt, .int .i64 xn, .slice xla xln xlc] 196 rfl) hB5)
    have HR2 := Lib.hid (hl2.blk (HR1.out.keep hx1) hwp)
    have HT2 := Lib.hid (HT1.out.later (p := p) (fun g h => by omega) ((LeP.ofExt hx1).trans hl2))
    have HL2 := Lib.hid ((HL1.out.trans (LeP.ofExt hx1)).trans hl2)
    have HP2 := Lib.hid hp2
    clear hp2 hl2 hx1 HP1 HR1 HL1 HT1
    have hgB : g ≠ W1.heap.size := by omega
    have hwB : w.heap.size ≠ W1.heap.size := by omega
    have hwl : w.heap.size ≤ W1.heap.size := by omega
    clear hp1w hg1w hw1
    generalize W1.heap.size = B5 at HV2 HT2 hB5 hgB hwB hwl ⊢
    cases f with
    | zero => exact absurd HFf.out (by simp [rowLoop])
    | succ f =>
      have HS := Lib.hid (stepIs HFf.out)
      clear HFf
      generalize (findF T s1 (binsL k)).1 = o at HS ⊢
      generalize (findF T s1 (binsL k)).2 = s2 at HS HP2 ⊢
      go_simp
      repeat (first | go_values | go_skip | go_guarded | go_step | go_upon)
      go_loopg [6] f (fun kk op wr => ∃ (sa : PSt) (na : Tr) (xa : PN) (oa : Int), op = .int .i64 oa ∧ PsAt wr p g cap long T sa ∧ TrAt (blkA w.heap.size B5) wr xa na ∧ Blk wr B5 xa.cells 196 ∧ Blk wr w.heap.size #[.int .i64 0, .int .i64 0, .string ⟨#[]⟩, .string ⟨#[]⟩, .int .i64 0, .slice none 0 0] 196 ∧ LeP p w wr ∧ StepIs rec T k r s' kk oa na sa)
      case atStart => exact ⟨s2, n, _, o, rfl, HP2.out, HT2.out, HV2.out, HR2.out, HL2.out, HS.out⟩
      case round =>
        obtain ⟨sa, na, xa, oa, rfl, hp, ht, hv, hr, hl, hst⟩ := hrel
        have HPa := Lib.hid hp
        have HTa := Lib.hid ht
        have HVa := Lib.hid hv
        have HRa := Lib.hid hr
        have HLa := Lib.hid hl
        have HSa := Lib.hid hst
        clear hp ht hv hr hl hst HP2 HT2 HV2 HR2 HL2 HS
        obtain ⟨yk, yo, ys, yt, yn, yla, yln, ylc⟩ := xa
        simp only [PN.cells] at HVa
        cases hb : oa == 0
        · have hb2 : (oa != 0) = true := by simp only [bne, hb]; rfl
          have hst := HSa.out
          unfold StepIs at hst
          rw [if_neg (by intro e; subst e; cases hb)] at hst
          cases hrm : rec (k + 1) sa with
          | none => rw [hrm] at hst; cases hst
          | some m1 =>
            obtain ⟨m, sb⟩ := m1
            rw [hrm] at hst
            have HSt := Lib.hid (show rowLoop rec T k gk (.mk 6 oa [] [] 0 [na, m]) sb = some (r, s') from hst)
            have KM := Lib.hid (fun W (hW : Ext wr W) => HRec.out (k + 1) ((k : Int) + 1) sa m sb W (by omega) (by omega) hrm (HPa.out.ext hW))
            have hBl : B5 < wr.heap.size := HVa.out.lt
            have hWl : w.heap.size < wr.heap.size := HRa.out.lt
            clear hst hrm HSa
            have HF := Lib.hid (show ∀ W, LeP p wr W → (∀ j, W.cell? ⟨B5, j, none⟩ = (#[.int .i64 yk, .int .i64 yo, .string ys, .string yt, .int .i64 yn, .slice yla yln ylc] : Array Value)[j]?) from fun W hW => (hW.blk HVa.out hB5).cell)
            go_simp
            repeat (first | go_values | go_skip | go_guarded | go_step | go_upon)
            refine wp_parZC 5 (leX) (leP p) (LeP.ofExt) [0, 1, 2, 3, 4, 5, 6, 7, 8] 8 8 (fun
                | 0 => fun _ v _ => v = .int .i64 oa
                | 1 => fun _ v _ => v = .agg #[.int .i64 yk, .int .i64 yo, .string ys, .string yt, .int .i64 yn, .slice yla yln ylc]
                | 2 => fun _ v _ => v = .pointer (some ⟨p, 0, none⟩)
                | 3 => fun _ v _ => v = .int .i64 k
                | 4 => fun _ v _ => v = .int .i64 ((k : Int) + 1)
                | 5 => fun _ => readP (blkA w.heap.size B5) p g cap long T m sb
                | 6 => fun _ => pairP (blkA w.heap.size B5) ⟨yk, yo, ys, yt, yn, yla, yln, ylc⟩ na m
                | 7 => fun _ => treeP (blkA w.heap.size B5) (.mk 6 oa [] [] 0 [na, m])
                | _ => fun _ _ _ => True) (fun
                | _ => undef) (by kernel_rfl) (by kernel_rfl) (by kernel_rfl) (by decide) ?_ ?_ ?_
            · simp (maxSteps := 20000000) only [permL, permOp, List.filterMap_cons, List.filterMap_nil, List.getElem?_cons_succ, List.getElem?_cons_zero, Option.map_some, Option.map_none, List.take_succ_cons, List.take_zero, ParAllC, Act.put, List.setIfInBounds_toArray, List.set_cons_succ, List.set_cons_zero]
              refine ⟨?_, ?_, ?_, ?_, ?_, ?_, ?_, ?_, trivial⟩
              · intro vals W hx hd
                rw [if_neg (by decide)] at hx
                have hW := HF.out W hx
                simp [PDepsG, pdeps, Region.binds, List.idxOf_cons] at hd
                refine ParObC.plain rfl ?_
                go_simp
                first | exact IsLe.refl (leX) _ | exact ⟨IsLe.refl (leX) _, fun _ _ => rfl⟩
              · intro vals W hx hd
                rw [if_neg (by decide)] at hx
                have hW := HF.out W hx
                simp [PDepsG, pdeps, Region.binds, List.idxOf_cons] at hd
                refine ParObC.plain rfl ?_
                go_simp
                first | exact IsLe.refl (leX) _ | exact ⟨IsLe.refl (leX) _, fun _ _ => rfl⟩
              · intro vals W hx hd
                rw [if_neg (by decide)] at hx
                have hW := HF.out W hx
                simp [PDepsG, pdeps, Region.binds, List.idxOf_cons] at hd
                refine ParObC.plain rfl ?_
                go_simp
                first | exact IsLe.refl (leX) _ | exact ⟨IsLe.refl (leX) _, fun _ _ => rfl⟩
              · intro vals W hx hd
                rw [if_neg (by decide)] at hx
                have hW := HF.out W hx
                simp [PDepsG, pdeps, Region.binds, List.idxOf_cons] at hd
                refine ParObC.plain rfl ?_
                go_simp
                first | exact IsLe.refl (leX) _ | exact ⟨IsLe.refl (leX) _, fun _ _ => rfl⟩
              · intro vals W hx hd
                rw [if_neg (by decide)] at hx
                have hW := HF.out W hx
                simp [PDepsG, pdeps, Region.binds, List.idxOf_cons] at hd
                refine ParObC.plain rfl ?_
                go_simp
                first | exact IsLe.refl (leX) _ | exact ⟨IsLe.refl (leX) _, fun _ _ => rfl⟩
              · intro vals W hx hd
                rw [if_pos (by decide)] at hx
                simp [PDepsG, pdeps, Region.binds, List.idxOf_cons] at hd
                refine ParObC.call rfl ?_
                go_simp
                refine Calls.mono (KM.out W hx) ?_
                rintro e w9 ⟨y, rfl, hty, hpy, hly⟩
                have hs := hx.size
                exact ⟨_, rfl, hly, fun w3 h3 => ⟨y, rfl, (hty.mono (B := (blkA w.heap.size B5)) fun g h1 h2 => by omega).later (p := p) (fun g h => by omega) (LeP.ofExt h3), hpy.ext h3⟩⟩
              · intro vals W hx hd
                rw [if_neg (by decide)] at hx
                have hW := HF.out W hx
                simp [PDepsG, pdeps, Region.binds, List.idxOf_cons] at hd
                refine ParObC.plain rfl ?_
                obtain ⟨h1, y, hvy, hty, hpy⟩ := hd
                replace hvy : vals _ = .agg _ := hvy
                go_simp
                have hs := hx.size
                refine ⟨(Ext.refl _).alloc _, fun w3 h3 => ⟨_, y, rfl, by omega, ?_, ?_, ?_⟩⟩
                · exact (pnAt_of [⟨yk, yo, ys, yt, yn, yla, yln, ylc⟩, y] (Blk.new W _ 196 rfl)).same (h3.old _ (by simp) (by omega)) h3.size
                · exact HTa.out.later (p := p) (fun g h => by omega) (hx.trans ((LeP.ofExt ((Ext.refl W).alloc _)).trans h3))
                · exact hty.later (p := p) (fun g h => by omega) ((LeP.ofExt ((Ext.refl W).alloc _)).trans h3)
              · intro vals W hx hd
                rw [if_neg (by decide)] at hx
                have hW := HF.out W hx
                simp [PDepsG, pdeps, Region.binds, List.idxOf_cons] at hd
                refine ParObC.plain rfl ?_
                obtain ⟨h0, gs, y, hv6, hA, hP, hTx, hTy⟩ := hd
                go_simp
                refine ⟨IsLe.refl leX _, fun w3 h3 => ⟨⟨6, oa, ⟨#[]⟩, ⟨#[]⟩, 0, some ⟨gs, 0, none⟩, 2, 2⟩, rfl, ?_⟩⟩
                refine .node 6 oa [] [] 0 gs 2 [⟨yk, yo, ys, yt, yn, yla, yln, ylc⟩, y] [na, m] rfl (by simp) (Nat.le_refl _) hA (hP.same (h3.old _ hP.1 (by omega)) h3.size) fun i x z hx hz => ?_
                have hi : i = 0 ∨ i = 1 := by have := (List.getElem?_eq_some_iff.1 hx).1; simp at this; omega
                rcases hi with rfl | rfl
                · obtain rfl := Option.some.inj hx
                  obtain rfl := Option.some.inj hz
                  exact hTx.later (p := p) (fun g h => by omega) h3
                · obtain rfl := Option.some.inj hx
                  obtain rfl := Option.some.inj hz
                  exact hTy.later (p := p) (fun g h => by omega) h3
            · simp (maxSteps := 20000000) only [permL, permOp, List.filterMap_cons, List.filterMap_nil, List.getElem?_cons_succ, List.getElem?_cons_zero, Option.map_some, Option.map_none, List.drop_succ_cons, List.drop_zero, List.take_succ_cons, List.take_zero, Nat.reduceSub, ZAll, ParEnd, Act.put, List.setIfInBounds_toArray, List.set_cons_succ, List.set_cons_zero]
            intro vals W hx hf hz
            simp (maxSteps := 20000000) only [permL, permOp, List.filterMap_cons, List.filterMap_nil, List.getElem?_cons_succ, List.getElem?_cons_zero, Option.map_some, Option.map_none, ParFactsG, List.take_succ_cons, List.take_zero, and_true, Nat.reduceAdd] at hf
            obtain ⟨f0, f1, f2, f3, f4, f5, f6, f7⟩ := hf
            clear hz
            simp (maxSteps := 20000000) only [permL, permOp, List.filterMap_cons, List.filterMap_nil, List.getElem?_cons_succ, List.getElem?_cons_zero, Option.map_some, Option.map_none, List.drop_succ_cons, List.drop_zero, List.take_succ_cons, List.take_zero, Nat.reduceSub, ParEnd, ZTail, Act.put, List.setIfInBounds_toArray, List.set_cons_succ, List.set_cons_zero, Nat.reduceAdd, f0, f1, f2, f3, f4]
            clear f0 f1 f2 f3 f4
            obtain ⟨z, hz, hTz⟩ := f7
            obtain ⟨_, _, _, hPb⟩ := f5
            clear f6
            obtain ⟨zk, zo, zs, zt, zn, zla, zln, zlc⟩ := z
            replace hz : vals 7 = .agg #[.int .i64 zk, .int .i64 zo, .string zs, .string zt, .int .i64 zn, .slice zla zln zlc] := hz
            refine ⟨?_⟩
            refine yields_storeP (g := B5) (cs := #[.int .i64 zk, .int .i64 zo, .string zs, .string zt, .int .i64 zn, .slice zla zln zlc]) rfl (by simp [Act.eval]) (by simp [Act.eval, hz]) (hx.blk HVa.out hB5) rfl rfl (by simp [Value.oneCell']) ?_
            have HP5 := Lib.hid (hPb.row (Ne.symm hB5) hgB #[.int .i64 zk, .int .i64 zo, .string zs, .string zt, .int .i64 zn, .slice zla zln zlc])
            have HT5 := Lib.hid (hTz.row (fun g h => h.2) #[.int .i64 zk, .int .i64 zo, .string zs, .string zt, .int .i64 zn, .slice zla zln zlc])
            have HV5 := Lib.hid (show Blk _ B5 #[.int .i64 zk, .int .i64 zo, .string zs, .string zt, .int .i64 zn, .slice zla zln zlc] 196 from setRow_heap W B5 _ #[.int .i64 zk, .int .i64 zo, .string zs, .string zt, .int .i64 zn, .slice zla zln zlc] _ _ (hx.blk HVa.out hB5))
            have HR5 := Lib.hid (show Blk _ w.heap.size _ 196 from (setRow_other W B5 w.heap.size #[.int .i64 zk, .int .i64 zo, .string zs, .string zt, .int .i64 zn, .slice zla zln zlc] hwB).trans (hx.blk HRa.out hwp))
            have HL5 := Lib.hid ((HLa.out.trans hx).row hwl #[.int .i64 zk, .int .i64 zo, .string zs, .string zt, .int .i64 zn, .slice zla zln zlc])
            generalize W.setRow B5 #[.int .i64 zk, .int .i64 zo, .string zs, .string zt, .int .i64 zn, .slice zla zln zlc] = W5 at HP5 HT5 HV5 HR5 HL5 ⊢
            clear hx hTz hPb HF KM HPa HTa HVa HRa HLa hBl hWl hz
            generalize vals 5 = v5
            generalize vals 6 = v6
            generalize vals 7 = v7
            obtain ⟨f2, hf2⟩ : ∃ f2, gk = f2 + 1 := by
              cases gk with
              | zero => exact absurd HSt.out (by simp [rowLoop])
              | succ f2 => exact ⟨f2, rfl⟩
            have hSt := HSt.out
            rw [hf2] at hSt
            have HS6 := Lib.hid (stepIs hSt)
            have HF2 := Lib.hid hf2
            clear hSt HSt hf2
            go_simp
            repeat (first | go_values | go_skip | go_guarded | go_step | go_upon)
            refine Calls.mono (KF.out sb _ HP5.out) ?_
            rintro e W6 ⟨rfl, hp6, hl6⟩
            have HP6 := Lib.hid hp6
            have HL6 := Lib.hid hl6
            clear hp6 hl6
            generalize (findF T sb (binsL k)).1 = o6 at HS6 ⊢
            generalize (findF T sb (binsL k)).2 = s6 at HS6 HP6 ⊢
            go_simp
            repeat (first | go_values | go_skip | go_guarded | go_step | go_upon)
            go_roundg f2
            case measure => have := HF2.out; omega
            case rel => exact ⟨s6, _, ⟨zk, zo, zs, zt, zn, zla, zln, zlc⟩, o6, rfl, HP6.out, HT5.out.later (p := p) (fun g h => by omega) HL6.out, HL6.out.blk HV5.out hB5, HL6.out.blk HR5.out hwp, HL5.out.trans HL6.out, HS6.out⟩
        · have hb2 : (oa != 0) = false := by simp only [bne, hb]; rfl
          obtain rfl : oa = 0 := by simpa using hb
          have hst := HSa.out
          unfold StepIs at hst
          rw [if_pos rfl] at hst
          obtain ⟨rfl, rfl⟩ := hst
          obtain ⟨cv, fv⟩ := HVa.out.facts
          obtain ⟨cr, fr⟩ := HRa.out.facts
          have hvl := HVa.out.lt
          have hrl := HRa.out.lt
          go_simp
          repeat (first | go_values | go_skip | go_guarded | go_step | go_upon)
          refine bodyPost_ret (ret_ndP rfl _ rfl rfl (blk6P HRa.out _ _ _ _ _ _)) rfl ?_
          refine ⟨⟨yk, yo, ys, yt, yn, yla, yln, ylc⟩, rfl, ?_, HPa.out.other6 hpw hgw _ _ _ _ _ _, HLa.out.other6 (Nat.le_refl _) _ _ _ _ _ _⟩
          exact (HTa.out.set6 (b := w.heap.size) (fun g h => by omega) _ _ _ _ _ _).mono fun g h _ => Nat.le_of_lt h.1
end Go.Proofs.YtchpbdodlbghaaaGreatDoor
