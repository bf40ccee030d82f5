/-
  What the document fixes of layer 18 (umlautlaw18.awake).
-/
import Derived.Test.YtlhkmdchjklaeaaGreatDoorChainsP
import Derived.Test.YtlhkmdchjklaeaaGreatDoorPsrR
namespace Go.Proofs.YtlhkmdchjklaeaaGreatDoor
open Go.RowKit Go.Lib
set_option maxRecDepth 1000000

def awS : List UInt8 := [97, 32, 43, 32, 98, 32, 42, 32, 50, 32, 60, 32, 51]
theorem aw_ok : chkG awS (fun t => match t with | .mk k o _ _ _ l => k == 6 && o == 3 && l.length == 2) = true := by decide +kernel
def awT : List Lx.Tok := [⟨2, [68, 82, 79, 80], 0, 0⟩, ⟨2, [84, 65, 66, 76, 69], 0, 5⟩, ⟨1, [116], 0, 11⟩]
theorem aw_lex : Lx.lex [68, 82, 79, 80, 32, 84, 65, 66, 76, 69, 32, 116] = .ok awT := by rfl
set_option maxHeartbeats 8000000 in
theorem awake18_any (w : World) (hG : GlobL w) : Calls Tryz.prog 8 #[] w fun e w' => e = .returned (.bool true) ∧ Below w.heap.size w w' := by
  obtain ⟨T, t, out, hE, hp⟩ := chkG_facts aw_ok
  obtain ⟨tk, t2, ts, tt, tn, tl⟩ := t
  simp only [Bool.and_eq_true, beq_iff_eq] at hp
  obtain ⟨⟨rfl, rfl⟩, h2⟩ := hp
  have KE := Lib.hid (hE.exprC w hG)
  have KS := Lib.hid (fun x A W a b c => hE.showC x A W a b c)
  have KD := Lib.hid (fun W hG => stmt_any ⟨#[68, 82, 79, 80, 32, 84, 65, 66, 76, 69, 32, 116]⟩ awT aw_lex (by decide) (by decide) (by rfl) (by rfl) (by rfl) (by rfl) (by rfl) W hG (by decide))
  rw [show (takeT awT ⟨2, 0, 0, 0⟩ 1).text = [116] from rfl] at KD
  have HG := Lib.hid hG
  clear hE hG
  unfold awS at KE KS
  go_enter Tryz.func8, Tryz.ntmps8
  go_simp
  repeat (first | go_values | go_skip | go_guarded | go_step | go_upon)
  refine Calls.mono KE.out ?_
  rintro e W1 ⟨x, rfl, hx, hb1⟩
  obtain ⟨e1, e2, _, _, _, hK⟩ := hx.parts
  have hln : x.ln = 2 := by
    rcases hK with ⟨_, _, _, h⟩ | ⟨_, _, _, h, _⟩
    · rw [h] at h2; cases h2
    · rw [h, h2]
  have HX1 := Lib.hid hb1
  have HT1 := Lib.hid hx
  have hs1 := hb1.size
  clear hb1 hx hK KE
  obtain ⟨xk, xo, xs, xt, xn, xla, xln, xlc⟩ := x
  simp only at e1 e2 hln
  subst e1 e2 hln
  simp only [PN.v]
  have hx2 : Ext W1 (W1.alloc (.cells #[.int .i64 6, .int .i64 3, .string xs, .string xt, .int .i64 xn, .slice xla 2 xlc] 25)) := (Ext.refl W1).alloc _
  have HB2 := Lib.hid (Blk.new W1 #[.int .i64 6, .int .i64 3, .string xs, .string xt, .int .i64 xn, .slice xla 2 xlc] 25 rfl)
  have HX2 := Lib.hid (Ext.trans HX1.out hx2)
  have HT2 := Lib.hid ((HT1.out.ext hx2).mono (B := fun g => g < W1.heap.size + 1) fun g h1 h2 => by simpa using h2)
  clear HX1 HT1
  go_simp
  repeat (first | go_values | go_skip | go_guarded | go_step | go_upon)
  refine Calls.mono (KS.out ⟨6, 3, xs, xt, xn, xla, 2, xlc⟩ _ _ HT2.out (fun g h => by simpa using h) (HG.out.keep HX2.out)) ?_
  rintro e W3 ⟨rfl, hb3⟩
  have HX3 := Lib.hid (Ext.trans HX2.out hb3)
  have HB3 := Lib.hid (HB2.out.keep hb3)
  clear hb3 hx2 HX2 HB2 HT2 KS
  go_simp
  repeat (first | go_values | go_skip | go_guarded | go_step | go_upon)
  refine Calls.mono (KD.out W3 (HG.out.keep HX3.out)) ?_
  rintro e W4 ⟨rfl, hb4⟩
  unfold dropV
  have HX4 := Lib.hid (Ext.trans HX3.out hb4)
  have HB4 := Lib.hid (HB3.out.keep hb4)
  clear hb4 HX3 HB3 KD HG
  have hx5 : Ext W4 (W4.alloc (.cells #[.int .i64 4, .string ⟨#[116]⟩, .string ⟨#[]⟩, .string ⟨#[]⟩, .int .i64 0, .int .i64 0, .slice none 0 0, .bool false, .bool false, .slice none 0 0, .slice none 0 0, .slice none 0 0, .slice none 0 0, .pointer none, .pointer none, .slice none 0 0, .slice none 0 0, .int .i64 0, .int .i64 0] 59)) := (Ext.refl W4).alloc _
  have HX5 := Lib.hid (Ext.trans HX4.out hx5)
  have HB5 := Lib.hid (HB4.out.keep hx5)
  have HD5 := Lib.hid (Blk.new W4 #[.int .i64 4, .string ⟨#[116]⟩, .string ⟨#[]⟩, .string ⟨#[]⟩, .int .i64 0, .int .i64 0, .slice none 0 0, .bool false, .bool false, .slice none 0 0, .slice none 0 0, .slice none 0 0, .slice none 0 0, .pointer none, .pointer none, .slice none 0 0, .slice none 0 0, .int .i64 0, .int .i64 0] 59 rfl)
  clear hx5
  go_wp2_with (refine wpList_store_row rfl 59 (.tmp 6) (.tmp 21) rfl W4.heap.size #[.int .i64 4, .string ⟨#[116]⟩, .string ⟨#[]⟩, .string ⟨#[]⟩, .int .i64 0, .int .i64 0, .slice none 0 0, .bool false, .bool false, .slice none 0 0, .slice none 0 0, .slice none 0 0, .slice none 0 0, .pointer none, .pointer none, .slice none 0 0, .slice none 0 0, .int .i64 0, .int .i64 0] rfl rfl 59 #[.int .i64 0, .string ⟨#[]⟩, .string ⟨#[]⟩, .string ⟨#[]⟩, .int .i64 0, .int .i64 0, .slice none 0 0, .bool false, .bool false, .slice none 0 0, .slice none 0 0, .slice none 0 0, .slice none 0 0, .pointer none, .pointer none, .slice none 0 0, .slice none 0 0, .int .i64 0, .int .i64 0] (Blk.new W4 _ _ rfl) infoSt rfl (by simp [Value.oneCell']) ?_; rw [World.setRow_alloc_new]; generalize (W4.alloc (.cells #[.int .i64 4, .string ⟨#[116]⟩, .string ⟨#[]⟩, .string ⟨#[]⟩, .int .i64 0, .int .i64 0, .slice none 0 0, .bool false, .bool false, .slice none 0 0, .slice none 0 0, .slice none 0 0, .slice none 0 0, .pointer none, .pointer none, .slice none 0 0, .slice none 0 0, .int .i64 0, .int .i64 0] 59)) = W5 at HX5 HB5 HD5 ⊢; clear HX4 HB4; obtain ⟨cb, fb⟩ := HB5.out.facts; have hbl := HB5.out.lt; obtain ⟨cd, fd⟩ := HD5.out.facts; have hdl := HD5.out.lt)
  go_returns
  exact ⟨rfl, HX5.out⟩
end Go.Proofs.YtlhkmdchjklaeaaGreatDoor
