/-
  The parser: a sign that must be there; parentheses.
-/
import Derived.Test.YtlhkmdchjklaeaaGreatDoorPsrK
namespace Go.Proofs.YtlhkmdchjklaeaaGreatDoor
open Go.RowKit Go.Lib
set_option maxRecDepth 100000

def wantF (T : List Lx.Tok) (long : Nat) (s : PSt) (x : List UInt8) : PSt := if isB T s 5 x then { s with i := s.i + 1 } else wrongP T long 10 s
set_option maxHeartbeats 4000000 in
theorem wantOp_any (p g cap long : Nat) (T : List Lx.Tok) (s : PSt) (x : ByteArray) (w : World) (h : PsAt w p g cap long T s) :
    Calls Tryz.prog 132 #[.pointer (some ⟨p, 0, none⟩), .string x] w fun e w' => e = .returned (.tuple #[]) ∧ PsAt w' p g cap long T (wantF T long s (bsl x)) ∧ LeP p w w' := by
  have KO := Lib.hid (pop_any p g cap long T s x w h)
  unfold wantF
  cases hq : isB T s 5 (bsl x)
  · rw [hq] at KO
    have KW := Lib.hid (fun W (hW : PsAt W p g cap long T s) => wrong_any p g cap long T s 10 W hW)
    rw [if_neg (by decide)]
    clear h hq
    go_enter Tryz.func132, Tryz.ntmps132
    go_simp
    repeat (first | go_values | go_skip | go_guarded | go_step | go_upon)
    refine Calls.mono KO.out ?_
    rintro e W1 ⟨rfl, hp, hl⟩
    have HP1 := Lib.hid (show PsAt W1 p g cap long T s from hp)
    have HL1 := Lib.hid hl
    clear hp hl KO
    go_simp
    repeat (first | go_values | go_skip | go_guarded | go_step | go_upon)
    refine Calls.mono (KW.out W1 HP1.out) ?_
    rintro e W2 ⟨rfl, hp, hl⟩
    have HP2 := Lib.hid hp
    have HL2 := Lib.hid (HL1.out.trans hl)
    clear hp hl KW HP1 HL1
    go_simp
    repeat (first | go_values | go_skip | go_guarded | go_step | go_upon)
    go_returns
    exact ⟨rfl, HP2.out, HL2.out⟩
  · rw [hq] at KO
    rw [if_pos rfl]
    clear h hq
    go_enter Tryz.func132, Tryz.ntmps132
    go_simp
    repeat (first | go_values | go_skip | go_guarded | go_step | go_upon)
    refine Calls.mono KO.out ?_
    rintro e W1 ⟨rfl, hp, hl⟩
    have HP1 := Lib.hid (show PsAt W1 p g cap long T { s with i := s.i + 1 } from hp)
    have HL1 := Lib.hid hl
    clear hp hl KO
    go_simp
    repeat (first | go_values | go_skip | go_guarded | go_step | go_upon)
    go_returns
    exact ⟨rfl, HP1.out, HL1.out⟩
/-- What stands between parentheses. -/
def parenF (rec : Nat → PSt → Option (Tr × PSt)) (T : List Lx.Tok) (long : Nat) (s : PSt) : Option (Tr × PSt) :=
  if s.i < T.length then (rec 1 { s with i := s.i + 1 }).bind fun m => some (m.1, wantF T long m.2 [41]) else none
set_option maxHeartbeats 8000000 in
theorem paren_any (b2 : Nat) (p g cap long : Nat) (T : List Lx.Tok) (rec : Nat → PSt → Option (Tr × PSt)) (hrec : LevOk p g cap long T rec) (s : PSt) (r : Tr) (s' : PSt) (w : World) (hf : parenF rec T long s = some (r, s')) (h : PsAt w p g cap long T s)
    (h2 : Blk w b2 #[.pointer (some ⟨p, 0, none⟩)] 38) (h2p : b2 ≠ p) :
    Calls Tryz.prog 131 #[.pointer (some ⟨b2, 0, none⟩)] w (LevPost p g cap long T r s' w) := by
  have hpl : p < w.heap.size := h.blk.lt
  have hpw : p ≠ w.heap.size := by omega
  have hgw : g ≠ w.heap.size := by have := h.tok.1; omega
  have hwp : w.heap.size ≠ p := Ne.symm hpw
  have h2w : b2 < w.heap.size := h2.lt
  unfold parenF at hf
  by_cases hlt : s.i < T.length
  · rw [if_pos hlt] at hf
    cases hr1 : rec 1 { s with i := s.i + 1 } with
    | none => rw [hr1] at hf; cases hf
    | some m1 =>
      obtain ⟨m, s2⟩ := m1
      rw [hr1] at hf
      obtain ⟨rfl, rfl⟩ := Prod.mk.inj (Option.some.inj hf)
      clear hf
      obtain ⟨i, deep, at_, er⟩ := s
      simp only at hr1 hlt
      have hfew := h.few
      have hl0 : LeP p w ((w.setCell ⟨p, 1, none⟩ (.int .i64 ((i : Int) + 1))).alloc (.cells #[.int .i64 0, .int .i64 0, .string ⟨#[]⟩, .string ⟨#[]⟩, .int .i64 0, .slice none 0 0] 25)) := (LeP.set 1 _).trans (LeP.ofExt ((Ext.refl _).alloc _))
      have hp0 : PsAt ((w.setCell ⟨p, 1, none⟩ (.int .i64 ((i : Int) + 1))).alloc (.cells #[.int .i64 0, .int .i64 0, .string ⟨#[]⟩, .string ⟨#[]⟩, .int .i64 0, .slice none 0 0] 25)) p g cap long T ⟨i + 1, deep, at_, er⟩ := by
        refine PsAt.ext (w := w.setCell ⟨p, 1, none⟩ (.int .i64 ((i : Int) + 1))) (h.set (LeP.set 1 _) ?_ (by show i + 1 ≤ _; omega)) ((Ext.refl _).alloc _)
        exact h.blk.set 1 _
      have hr0 : Blk ((w.setCell ⟨p, 1, none⟩ (.int .i64 ((i : Int) + 1))).alloc (.cells #[.int .i64 0, .int .i64 0, .string ⟨#[]⟩, .string ⟨#[]⟩, .int .i64 0, .slice none 0 0] 25)) w.heap.size #[.int .i64 0, .int .i64 0, .string ⟨#[]⟩, .string ⟨#[]⟩, .int .i64 0, .slice none 0 0] 25 := Blk.new _ _ _ (by simp)
      have hlt0 : w.heap.size < (((w.setCell ⟨p, 1, none⟩ (.int .i64 ((i : Int) + 1))).alloc (.cells #[.int .i64 0, .int .i64 0, .string ⟨#[]⟩, .string ⟨#[]⟩, .int .i64 0, .slice none 0 0] 25))).heap.size := hr0.lt
      have KL := hrec 1 1 _ m s2 _ rfl (by decide) hr1 hp0
      have hb := h.blk
      simp only [psC] at hb
      have hsum := IntWalk.i64_in ((i : Int) + 1) (by omega)
      obtain ⟨cb, fb⟩ := hb.facts
      obtain ⟨c2, f2⟩ := h2.facts
      have hbl := hb.lt
      have h2l := h2.lt
      have HA0 := Lib.hid (hl0.blk h2 h2p)
      have HH := Lib.hid (And.intro hl0 (And.intro hp0 (And.intro hr0 hlt0)))
      have HKL := Lib.hid KL
      have KW := Lib.hid (fun (s : PSt) W (hW : PsAt W p g cap long T s) => wantOp_any p g cap long T s ⟨#[41]⟩ W hW)
      clear hb h h2 hr1 hrec hl0 hp0 hr0 hlt0 KL
      go_enter Tryz.func131, Tryz.ntmps131
      go_simp
      repeat (first | go_values | go_skip | go_guarded | go_step | go_upon)
      obtain ⟨hl0, hp0, hr0, hlt0⟩ := HH.out
      refine Calls.mono HKL.out ?_
      rintro e W2 ⟨x, rfl, ht2, hp2, hl2⟩
      have HR2 := Lib.hid (hl2.blk hr0 hwp)
      have HL2 := Lib.hid (hl0.trans hl2)
      have HT2 := Lib.hid (ht2.mono (B := blkA w.heap.size W2.heap.size) fun g h1 h2 => ⟨by omega, by omega⟩)
      have HP2 := Lib.hid hp2
      have HA2 := Lib.hid (hl2.blk HA0.out h2p)
      clear ht2 hp2 hl2 hl0 hp0 hr0 hlt0 cb fb hbl c2 f2 h2l HH HKL HA0
      obtain ⟨xk, xo, xs, xt, xn, xla, xln, xlc⟩ := x
      simp only [PN.v]
      obtain ⟨c2, f2⟩ := HA2.out.facts
      have h2l := HA2.out.lt
      have hx1 : Ext W2 (W2.alloc (.cells #[.int .i64 xk, .int .i64 xo, .string xs, .string xt, .int .i64 xn, .slice xla xln xlc] 25)) := (Ext.refl W2).alloc _
      have hB5 : W2.heap.size ≠ p := by have := HP2.out.blk.lt; omega
      go_simp
      repeat (first | go_values | go_skip | go_guarded | go_step | go_upon)
      refine Calls.mono (KW.out s2 _ (HP2.out.ext hx1)) ?_
      rw [show bsl ⟨#[41]⟩ = [41] from rfl]
      rintro e W3 ⟨rfl, hp3, hl3⟩
      have HV3 := Lib.hid (hl3.blk (Blk.new W2 #[.int .i64 xk, .int .i64 xo, .string xs, .string xt, .int .i64 xn, .slice xla xln xlc] 25 rfl) hB5)
      have HR3 := Lib.hid (hl3.blk (HR2.out.keep hx1) hwp)
      have HT3 := Lib.hid (HT2.out.later (p := p) (fun g h => by omega) ((LeP.ofExt hx1).trans hl3))
      have HL3 := Lib.hid ((HL2.out.trans (LeP.ofExt hx1)).trans hl3)
      have HP3 := Lib.hid hp3
      clear hp3 hl3 hx1 HP2 HR2 HL2 HT2 HA2 c2 f2 h2l
      obtain ⟨cv, fv⟩ := HV3.out.facts
      obtain ⟨cr, fr⟩ := HR3.out.facts
      have hvl := HV3.out.lt
      have hrl := HR3.out.lt
      go_simp
      repeat (first | go_values | go_skip | go_guarded | go_step | go_upon)
      refine bodyPost_ret (ret_ndP rfl _ rfl rfl (blk6P HR3.out _ _ _ _ _ _)) rfl ?_
      refine ⟨⟨xk, xo, xs, xt, xn, xla, xln, xlc⟩, rfl, ?_, HP3.out.other6 hpw hgw _ _ _ _ _ _, HL3.out.other6 (Nat.le_refl _) _ _ _ _ _ _⟩
      exact (HT3.out.set6 (b := w.heap.size) (fun g h => by omega) _ _ _ _ _ _).mono fun g h _ => Nat.le_of_lt h.1
  · rw [if_neg hlt] at hf; cases hf
end Go.Proofs.YtlhkmdchjklaeaaGreatDoor
