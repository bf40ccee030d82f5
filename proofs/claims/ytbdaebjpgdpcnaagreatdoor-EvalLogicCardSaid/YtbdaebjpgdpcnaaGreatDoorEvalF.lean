/-
  NOT of a truth (cast.Unary, Env.unary); a truth turned (eval.turned); two numbers held by an op (Env.binary).
-/
import Derived.Test.YtbdaebjpgdpcnaaGreatDoorEvalE
namespace Go.Proofs.YtbdaebjpgdpcnaaGreatDoor
open Go.RowKit Go.Lib
set_option maxRecDepth 100000

theorem tr_clean (t : Nat) (ht : t < 3) : cK (trK t) (trN t) emp = trK t ∧ cN (trK t) (trN t) emp = trN t ∧ cS (trK t) (trN t) emp = emp := by
  have h : vOk (trK t) (trN t) emp = true := by
    have : t = 0 ∨ t = 1 ∨ t = 2 := by omega
    rcases this with rfl | rfl | rfl <;> decide +kernel
  unfold cK cN cS
  rw [h]
  exact ⟨rfl, rfl, rfl⟩
set_option maxHeartbeats 4000000 in
theorem castnot_any (t : Nat) (ht : t < 3) (w : World) : Calls Tryz.prog 129 #[.int .i64 21, trV t] w fun e w' => e = .returned (.tuple #[trV (notT t), .int .i64 0]) ∧ Below w.heap.size w w' := by
  have KN := Lib.hid (not_any t ht)
  have KI := Lib.hid (fun W => valis_any (trK t) (trN t) emp W)
  obtain ⟨e1, e2, e3⟩ := tr_clean t ht
  rw [e1, e2, e3] at KI
  have hc : t = 0 ∨ t = 1 ∨ t = 2 := by omega
  rw [trV_eq _ (notT_lt t), trV_eq t ht] at KN
  rw [trV_eq _ (notT_lt t), trV_eq t ht]
  simp only [vV, emp] at KI
  obtain ⟨rk, hrk⟩ : ∃ z, z = trK (notT t) := ⟨_, rfl⟩
  obtain ⟨rn, hrn⟩ : ∃ z, z = trN (notT t) := ⟨_, rfl⟩
  rw [← hrk, ← hrn] at KN ⊢
  have HRK := Lib.hid hrk
  have HRN := Lib.hid hrn
  clear e1 e2 e3 hrk hrn
  have HA0 := Lib.hid ((Blk.new w #[.int .i64 (trK t), .int .i64 (trN t), .string ⟨#[]⟩] 23 rfl).alloc (.cells #[.int .i64 0, .int .i64 0, .string ⟨#[]⟩] 23))
  have HR0 := Lib.hid (Blk.new (w.alloc (.cells #[.int .i64 (trK t), .int .i64 (trN t), .string ⟨#[]⟩] 23)) #[.int .i64 0, .int .i64 0, .string ⟨#[]⟩] 23 (n := w.heap.size + 1) (by simp))
  have HX0 := Lib.hid (show Below w.heap.size w ((w.alloc (.cells #[.int .i64 (trK t), .int .i64 (trN t), .string ⟨#[]⟩] 23)).alloc (.cells #[.int .i64 0, .int .i64 0, .string ⟨#[]⟩] 23)) by go_grown)
  go_enter Tryz.func129, Tryz.ntmps129
  go_wp2_with fail
  generalize ((w.alloc (.cells #[.int .i64 (trK t), .int .i64 (trN t), .string ⟨#[]⟩] 23)).alloc (.cells #[.int .i64 0, .int .i64 0, .string ⟨#[]⟩] 23)) = W0 at HA0 HR0 HX0 ⊢
  refine Calls.mono (KI.out _) ?_
  rintro e w1 ⟨rfl, hb1⟩
  have HA1 := Lib.hid (HA0.out.keep hb1)
  have HR1 := Lib.hid (HR0.out.keep hb1)
  have HX1 := Lib.hid (show Below w.heap.size w w1 from HX0.out.trans (hb1.mono HX0.out.size))
  clear hb1 HA0 HR0 HX0 KI
  obtain ⟨ca, fa⟩ := HA1.out.facts
  have hal := HA1.out.lt
  go_simp
  repeat (first | go_values | go_skip | go_guarded | go_step | go_upon)
  have HA2 := Lib.hid (blk3 HA1.out (.int .i64 (trK t)) (.int .i64 (trN t)) (.string ⟨#[]⟩))
  have HR2 := Lib.hid (((HR1.out.other (a := ⟨w.heap.size, 0, none⟩) (by simp) (.int .i64 (trK t))).other (a := ⟨w.heap.size, 1, none⟩) (by simp) (.int .i64 (trN t))).other (a := ⟨w.heap.size, 2, none⟩) (by simp) (.string ⟨#[]⟩))
  have HX2 := Lib.hid (below3 HX1.out (Nat.le_refl _) (.int .i64 (trK t)) (.int .i64 (trN t)) (.string ⟨#[]⟩))
  clear ca fa hal HA1 HR1 HX1
  generalize (((w1.setCell ⟨w.heap.size, 0, none⟩ (.int .i64 (trK t))).setCell ⟨w.heap.size, 1, none⟩ (.int .i64 (trN t))).setCell ⟨w.heap.size, 2, none⟩ (.string ⟨#[]⟩)) = W2 at HA2 HR2 HX2 ⊢
  obtain ⟨ca, fa⟩ := HA2.out.facts
  obtain ⟨cr, fr⟩ := HR2.out.facts
  have hal := HA2.out.lt
  have hrl := HR2.out.lt
  have hpe := fun a b c d => pairEq a b c d W2
  have hpg := fun (x y : Operand) (a b c d : Int) => run_eqGuard_agg (P := Tryz.prog) W2 .eql 120 x y #[.int .i64 a, .int .i64 b] #[.int .i64 c, .int .i64 d] pairGuard
  rcases hc with rfl | rfl | rfl
  · rw [show trK 0 = 1 from rfl, show trN 0 = 0 from rfl] at *
    go_wp2_with (unfold Oper.upon; simp only [hpe, Result.andThen_ok])
    refine Calls.mono (KN.out _) ?_
    rintro e w3 ⟨rfl, hb3⟩
    have HR3 := Lib.hid (HR2.out.keep hb3)
    have HX3 := Lib.hid (show Below w.heap.size w w3 from HX2.out.trans (hb3.mono HX2.out.size))
    clear hpe hpg hb3 ca fa cr fr hal hrl
    obtain ⟨cr, fr⟩ := HR3.out.facts
    have hrl := HR3.out.lt
    go_simp
    repeat (first | go_values | go_skip | go_guarded | go_step | go_upon)
    refine bodyPost_ret (ret_vE2 rfl _ rfl rfl (blk3 HR3.out _ _ _)) rfl ?_
    exact ⟨rfl, below3 HX3.out (Nat.le_succ _) _ _ _⟩
  · rw [show trK 1 = 1 from rfl, show trN 1 = 1 from rfl] at *
    go_wp2_with (unfold Oper.upon; simp only [hpe, Result.andThen_ok])
    refine Calls.mono (KN.out _) ?_
    rintro e w3 ⟨rfl, hb3⟩
    have HR3 := Lib.hid (HR2.out.keep hb3)
    have HX3 := Lib.hid (show Below w.heap.size w w3 from HX2.out.trans (hb3.mono HX2.out.size))
    clear hpe hpg hb3 ca fa cr fr hal hrl
    obtain ⟨cr, fr⟩ := HR3.out.facts
    have hrl := HR3.out.lt
    go_simp
    repeat (first | go_values | go_skip | go_guarded | go_step | go_upon)
    refine bodyPost_ret (ret_vE2 rfl _ rfl rfl (blk3 HR3.out _ _ _)) rfl ?_
    exact ⟨rfl, below3 HX3.out (Nat.le_succ _) _ _ _⟩
  · rw [show trK 2 = 0 from rfl, show trN 2 = 0 from rfl] at *
    have h1 : rk = 0 := HRK.out
    have h2 : rn = 0 := HRN.out
    have H1 := Lib.hid h1
    have H2 := Lib.hid h2
    clear h1 h2
    go_wp2_with (unfold Oper.upon; simp only [hpe, Result.andThen_ok])
    refine bodyPost_ret (ret_vE2 rfl _ rfl rfl (blk3 HR2.out _ _ _)) rfl ?_
    exact ⟨by rw [H1.out, H2.out]; rfl, below3 HX2.out (Nat.le_succ _) _ _ _⟩

/-! ### A truth turned -/
theorem ret_turn (t : Nat) (b : Bool) : (if b then notT t else t) = (if b then notT t else t) := rfl
set_option maxHeartbeats 4000000 in
theorem turned_any (k o : Int) (s u : ByteArray) (n : Int) (la : Option Addr) (ln lc : Nat) (t : Nat) (ht : t < 3) (w : World) (hn : n = 0 ∨ n = 1) : Calls Tryz.prog 137 #[ndE k o s u n la ln lc, trV t] w fun e w' => e = .returned (.tuple #[trV (if n = 1 then notT t else t), .int .i64 0]) ∧ Below w.heap.size w w' := by
  have KN := Lib.hid (not_any t ht)
  rw [trV_eq _ (notT_lt t), trV_eq t ht] at KN
  simp only [ndE]
  have HA0 := Lib.hid ((Blk.new (w.alloc (.cells #[.int .i64 k, .int .i64 o, .string s, .string u, .int .i64 n, .slice la ln lc] 38)) #[.int .i64 (trK t), .int .i64 (trN t), .string ⟨#[]⟩] 23 (n := w.heap.size + 1) (by simp)).alloc (.cells #[.int .i64 0, .int .i64 0, .string ⟨#[]⟩] 23))
  have HR0 := Lib.hid (Blk.new ((w.alloc (.cells #[.int .i64 k, .int .i64 o, .string s, .string u, .int .i64 n, .slice la ln lc] 38)).alloc (.cells #[.int .i64 (trK t), .int .i64 (trN t), .string ⟨#[]⟩] 23)) #[.int .i64 0, .int .i64 0, .string ⟨#[]⟩] 23 (n := w.heap.size + 1 + 1) (by simp))
  have HX0 := Lib.hid (show Below w.heap.size w (((w.alloc (.cells #[.int .i64 k, .int .i64 o, .string s, .string u, .int .i64 n, .slice la ln lc] 38)).alloc (.cells #[.int .i64 (trK t), .int .i64 (trN t), .string ⟨#[]⟩] 23)).alloc (.cells #[.int .i64 0, .int .i64 0, .string ⟨#[]⟩] 23)) by go_grown)
  rcases hn with rfl | rfl
  · rw [if_neg (by decide), trV_eq t ht]
    have HRr := Lib.hid (Blk.new ((w.alloc (.cells #[.int .i64 k, .int .i64 o, .string s, .string u, .int .i64 0, .slice la ln lc] 38)).alloc (.cells #[.int .i64 (trK t), .int .i64 (trN t), .string ⟨#[]⟩] 23)) #[.int .i64 (trK t), .int .i64 (trN t), .string ⟨#[]⟩] 23 (n := w.heap.size + 1 + 1) (by simp))
    go_enter Tryz.func137, Tryz.ntmps137
    repeat (first | go_values | go_skip | go_guarded | go_step | go_upon)
    refine bodyPost_ret (ret_vE2 rfl _ rfl rfl HRr.out) rfl ?_
    exact ⟨rfl, by go_grown⟩
  · rw [if_pos rfl, trV_eq _ (notT_lt t), trV_eq t ht]
    go_enter Tryz.func137, Tryz.ntmps137
    go_wp2_with fail
    generalize (((w.alloc (.cells #[.int .i64 k, .int .i64 o, .string s, .string u, .int .i64 1, .slice la ln lc] 38)).alloc (.cells #[.int .i64 (trK t), .int .i64 (trN t), .string ⟨#[]⟩] 23)).alloc (.cells #[.int .i64 0, .int .i64 0, .string ⟨#[]⟩] 23)) = W0 at HA0 HR0 HX0 ⊢
    refine Calls.mono (KN.out _) ?_
    rintro e w1 ⟨rfl, hb1⟩
    have HA1 := Lib.hid (HA0.out.keep hb1)
    have HR1 := Lib.hid (HR0.out.keep hb1)
    have HX1 := Lib.hid (show Below w.heap.size w w1 from HX0.out.trans (hb1.mono HX0.out.size))
    clear hb1 HA0 HR0 HX0
    obtain ⟨ca, fa⟩ := HA1.out.facts
    obtain ⟨cr, fr⟩ := HR1.out.facts
    have hal := HA1.out.lt
    have hrl := HR1.out.lt
    go_simp
    repeat (first | go_values | go_skip | go_guarded | go_step | go_upon)
    have HR2 := Lib.hid (((HR1.out.other (a := ⟨w.heap.size + 1, 0, none⟩) (by simp) (.int .i64 (trK (notT t)))).other (a := ⟨w.heap.size + 1, 1, none⟩) (by simp) (.int .i64 (trN (notT t)))).other (a := ⟨w.heap.size + 1, 2, none⟩) (by simp) (.string ⟨#[]⟩))
    have HX2 := Lib.hid (below3 HX1.out (Nat.le_succ _) (.int .i64 (trK (notT t))) (.int .i64 (trN (notT t))) (.string ⟨#[]⟩))
    refine bodyPost_ret (ret_vE2 rfl _ rfl rfl (blk3 HR2.out _ _ _)) rfl ?_
    exact ⟨rfl, below3 HX2.out (by omega) _ _ _⟩
end Go.Proofs.YtbdaebjpgdpcnaaGreatDoor
