/-
  The parser: an expression's text read (parse.Expr).
-/
import Derived.Test.YtlhkmdchjklaeaaGreatDoorPsrO
namespace Go.Proofs.YtlhkmdchjklaeaaGreatDoor
open Go.RowKit Go.Lib
set_option maxRecDepth 100000

theorem ret_ndP3 {t u v : Tmp} {fn : Func} (h : fn.results = #[.cell t 25, .tmp u, .tmp v]) (tmps : Array Value) {w : World} {g : Nat} {cs : Array Value} (hc : cs.size = 6) (hp : tmps.getD t undef = .pointer (some ⟨g, 0, none⟩)) (hg : Blk w g cs 25) :
    (results fn tmps).run Tryz.prog w = .ok (.tuple #[.agg cs, tmps.getD u undef, tmps.getD v undef]) w := by
  have hp' : tmps[t]?.getD undef = .pointer (some ⟨g, 0, none⟩) := by simpa using hp
  have hr := run_loadVar_row w g 25 25 cs (0, 0) _ hg Tryz.underlying25 rfl (by rw [hc]; kernel_rfl)
  simp [results, h, hp', asAddr, hr]
/-- What an expression's text is read as: its tree, where it is wrong, how. -/
def exprF (T : List Lx.Tok) (long F : Nat) : Option (Tr × Int × Int) := (lev T long F 1 ⟨0, 0, 0, 0⟩).bind fun m =>
  if (endP T long m.2).e = 0 then some (m.1, 0, 0) else some (zTr, endA (endP T long m.2), (endP T long m.2).e)
def ExprPost (r : Tr) (a er : Int) (w : World) (e : Ending) (w' : World) : Prop := ∃ x : PN, e = .returned (.tuple #[x.v, .int .i64 a, .int .i64 er]) ∧ TrAt (w.heap.size ≤ ·) w' x r ∧ Below w.heap.size w w'
theorem Below.set6 {B : Nat} {w0 w : World} (h : Below B w0 w) {g : Nat} (hg : B ≤ g) (a b c d e f : Value) : Below B w0 ((((((w.setCell ⟨g, 0, none⟩ a).setCell ⟨g, 1, none⟩ b).setCell ⟨g, 2, none⟩ c).setCell ⟨g, 3, none⟩ d).setCell ⟨g, 4, none⟩ e).setCell ⟨g, 5, none⟩ f) :=
  (((((h.setCell (p := ⟨g, 0, none⟩) hg a).setCell (p := ⟨g, 1, none⟩) hg b).setCell (p := ⟨g, 2, none⟩) hg c).setCell (p := ⟨g, 3, none⟩) hg d).setCell (p := ⟨g, 4, none⟩) hg e).setCell (p := ⟨g, 5, none⟩) hg f
set_option maxHeartbeats 8000000 in
theorem expr_any (s : ByteArray) (T : List Lx.Tok) (F : Nat) (r : Tr) (a er : Int) (hf : exprF T s.size F = some (r, a, er)) (hl : Lx.lex (bsl s) = .ok T) (h0 : T ≠ []) (hT : T.length ≤ 4000) (w : World) (hG : GlobL w) (hs : s.size ≤ 4000) :
    Calls Tryz.prog 6 #[.string s] w (ExprPost r a er w) := by
  have HR0 := Lib.hid (Blk.new w #[.int .i64 0, .int .i64 0, .string ⟨#[]⟩, .string ⟨#[]⟩, .int .i64 0, .slice none 0 0] 25 rfl)
  have hx0 : Ext w (w.alloc (.cells #[.int .i64 0, .int .i64 0, .string ⟨#[]⟩, .string ⟨#[]⟩, .int .i64 0, .slice none 0 0] 25)) := (Ext.refl w).alloc _
  have KB := Lib.hid (begin_any s T hl h0 hT _ (hG.keep hx0) hs)
  have HX0 := Lib.hid hx0
  unfold exprF at hf
  cases hr1 : lev T s.size F 1 ⟨0, 0, 0, 0⟩ with
  | none => rw [hr1] at hf; cases hf
  | some m =>
    obtain ⟨n, s1⟩ := m
    rw [hr1] at hf
    simp only [Option.bind_some] at hf
    have HFf := Lib.hid hf
    have HLv := Lib.hid hr1
    clear hf hr1 hx0 hG hl h0 hT
    go_enter Tryz.func6, Tryz.ntmps6
    go_simp
    repeat (first | go_values | go_skip | go_guarded | go_step | go_upon)
    refine Calls.mono KB.out ?_
    rintro e W1 ⟨p, g, cap, rfl, hpw, hgw0, hp1, hb1⟩
    have hwp : w.heap.size ≠ p := by simp at hpw; omega
    have hwl : w.heap.size + 1 ≤ p := by simpa using hpw
    have HP1 := Lib.hid hp1
    have HR1 := Lib.hid (HR0.out.keep hb1)
    have HX1 := Lib.hid (HX0.out.trans hb1)
    have KL := Lib.hid (lev_ok p g cap s.size T F 1 1 ⟨0, 0, 0, 0⟩ n s1 W1 rfl (by decide) HLv.out hp1)
    have KE := Lib.hid (fun W (hW : PsAt W p g cap s.size T s1) => end_any p g cap s.size T s1 W hW)
    have hw1 : w.heap.size < W1.heap.size := HR1.out.lt
    have hpl1 : p < W1.heap.size := hp1.blk.lt
    have hgw : g ≠ w.heap.size := by simp at hgw0; omega
    clear hp1 hb1 HR0 HX0 KB hpw hgw0 HP1 HLv
    go_simp
    repeat (first | go_values | go_skip | go_guarded | go_step | go_upon)
    refine Calls.mono KL.out ?_
    rintro e W2 ⟨x, rfl, ht2, hp2, hl2⟩
    have HP2 := Lib.hid hp2
    have HR2 := Lib.hid (hl2.blk HR1.out hwp)
    have HL2 := Lib.hid (LeP.below HX1.out hl2 (by omega))
    have HT2 := Lib.hid (ht2.mono (B := fun g => w.heap.size < g ∧ g ≠ p) fun g h1 h2 => ⟨by omega, by omega⟩)
    clear ht2 hp2 hl2 KL HR1 HX1
    obtain ⟨xk, xo, xs, xt, xn, xla, xln, xlc⟩ := x
    simp only [PN.v]
    obtain ⟨cr, fr⟩ := HR2.out.facts
    have hrl := HR2.out.lt
    have hP3 := HP2.out.other6 (Ne.symm hwp) hgw (.int .i64 xk) (.int .i64 xo) (.string xs) (.string xt) (.int .i64 xn) (.slice xla xln xlc)
    have hR3 := blk6P HR2.out (.int .i64 xk) (.int .i64 xo) (.string xs) (.string xt) (.int .i64 xn) (.slice xla xln xlc)
    have hT3 := HT2.out.set6 (b := w.heap.size) (fun g h => by omega) (.int .i64 xk) (.int .i64 xo) (.string xs) (.string xt) (.int .i64 xn) (.slice xla xln xlc)
    have hL3 := Below.set6 HL2.out (Nat.le_refl _) (.int .i64 xk) (.int .i64 xo) (.string xs) (.string xt) (.int .i64 xn) (.slice xla xln xlc)
    have HP3 := Lib.hid hP3
    have HR3 := Lib.hid hR3
    have HT3 := Lib.hid hT3
    have HL3 := Lib.hid hL3
    clear hP3 hR3 hT3 hL3
    go_simp
    repeat (first | go_values | go_skip | go_guarded | go_step | go_upon)
    generalize ((((((W2.setCell ⟨w.heap.size, 0, none⟩ (.int .i64 xk)).setCell ⟨w.heap.size, 1, none⟩ (.int .i64 xo)).setCell ⟨w.heap.size, 2, none⟩ (.string xs)).setCell ⟨w.heap.size, 3, none⟩ (.string xt)).setCell ⟨w.heap.size, 4, none⟩ (.int .i64 xn)).setCell ⟨w.heap.size, 5, none⟩ (.slice xla xln xlc)) = W3 at HP3 HR3 HT3 HL3 ⊢
    clear cr fr hrl HP2 HR2 HT2 HL2
    refine Calls.mono (KE.out W3 HP3.out) ?_
    rintro e W4 ⟨rfl, hl4⟩
    have HR4 := Lib.hid (hl4.blk HR3.out hwp)
    have HT4 := Lib.hid (HT3.out.later (p := p) (fun g h => h.2) hl4)
    have HL4 := Lib.hid (LeP.below HL3.out hl4 (by omega))
    clear hl4 HP3 HR3 HT3 HL3 KE
    have hf := HFf.out
    clear HFf
    generalize endP T s.size s1 = E at hf ⊢
    generalize endA E = ea at hf ⊢
    obtain ⟨cr, fr⟩ := HR4.out.facts
    have hrl := HR4.out.lt
    by_cases hE : E.e = 0
    · rw [if_pos hE] at hf
      obtain ⟨rfl, hf2⟩ := Prod.mk.inj (Option.some.inj hf)
      obtain ⟨rfl, rfl⟩ := Prod.mk.inj hf2
      rw [hE]
      clear hf hf2
      go_simp
      repeat (first | go_values | go_skip | go_guarded | go_step | go_upon)
      refine bodyPost_ret (ret_ndP3 rfl _ rfl rfl (blk6P HR4.out _ _ _ _ _ _)) rfl ?_
      refine ⟨⟨xk, xo, xs, xt, xn, xla, xln, xlc⟩, rfl, ?_, Below.set6 HL4.out (Nat.le_refl _) _ _ _ _ _ _⟩
      exact (HT4.out.set6 (b := w.heap.size) (fun g h => by omega) _ _ _ _ _ _).mono fun g h _ => Nat.le_of_lt h.1
    · rw [if_neg hE] at hf
      obtain ⟨rfl, hf2⟩ := Prod.mk.inj (Option.some.inj hf)
      obtain ⟨rfl, rfl⟩ := Prod.mk.inj hf2
      clear hf hf2
      have hEb : (E.e != 0) = true := by simpa using hE
      go_simp
      repeat (first | go_values | go_skip | go_guarded | go_step | go_upon)
      refine bodyPost_ret (ret_ndP3 rfl _ rfl rfl (blk6P HR4.out _ _ _ _ _ _)) rfl ?_
      exact ⟨⟨0, 0, ⟨#[]⟩, ⟨#[]⟩, 0, none, 0, 0⟩, rfl, .leaf 0 0 [] [] 0, Below.set6 HL4.out (Nat.le_refl _) _ _ _ _ _ _⟩
end Go.Proofs.YtlhkmdchjklaeaaGreatDoor
