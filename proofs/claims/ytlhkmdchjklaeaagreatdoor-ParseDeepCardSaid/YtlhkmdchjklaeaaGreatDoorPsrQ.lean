/-
  The parser: DROP TABLE of a name.
-/
import Derived.Test.YtlhkmdchjklaeaaGreatDoorPsrO
namespace Go.Proofs.YtlhkmdchjklaeaaGreatDoor
open Go.RowKit Go.Lib
set_option maxRecDepth 100000

theorem infoSt : (Tryz.prog.info? 59).map (·.size) = some 19 := by kernel_rfl
theorem ret_stP {t : Tmp} {fn : Func} (h : fn.results = #[.cell t 59]) (tmps : Array Value) {w : World} {g : Nat} {cs : Array Value} (hc : cs.size = 19) (hp : tmps.getD t undef = .pointer (some ⟨g, 0, none⟩)) (hg : Blk w g cs 59) :
    (results fn tmps).run Tryz.prog w = .ok (.agg cs) w := by
  have hp' : tmps[t]?.getD undef = .pointer (some ⟨g, 0, none⟩) := by simpa using hp
  have hr := run_loadVar_row w g 59 59 cs (0, 0) _ hg Tryz.underlying59 rfl (by rw [hc]; kernel_rfl)
  simp [results, h, hp', asAddr, hr]
set_option maxHeartbeats 4000000 in
theorem name_anyP (p g cap long : Nat) (T : List Lx.Tok) (s : PSt) (w : World) (h : PsAt w p g cap long T s) :
    Calls Tryz.prog 149 #[.pointer (some ⟨p, 0, none⟩)] w fun e w' => e = .returned (.string ⟨(takeT T s 1).text.toArray⟩) ∧ PsAt w' p g cap long T (takeP T long s 1) ∧ LeP p w w' := by
  have KT := Lib.hid (take_any p g cap long T s 1 w h)
  generalize takeT T s 1 = t at KT ⊢
  generalize takeP T long s 1 = s1 at KT ⊢
  clear h
  obtain ⟨tk, tt, tn, tp⟩ := t
  simp only [tkV] at KT ⊢
  have hfd := tok_field tk ⟨tt.toArray⟩ tn tp
  go_enter Tryz.func149, Tryz.ntmps149
  go_simp
  repeat (first | go_values | go_skip | go_guarded | go_step | go_upon)
  refine Calls.mono KT.out ?_
  rintro e W1 ⟨rfl, hp1, hl1⟩
  have HP1 := Lib.hid hp1
  have HL1 := Lib.hid hl1
  clear hp1 hl1 KT
  go_simp
  repeat (first | go_values | go_skip | go_guarded | go_step | go_upon)
  go_returns
  exact ⟨rfl, HP1.out, HL1.out⟩
/-- DROP TABLE of this name. -/
def dropV (x : List UInt8) : Value := .agg #[.int .i64 4, .string ⟨x.toArray⟩, .string ⟨#[]⟩, .string ⟨#[]⟩, .int .i64 0, .int .i64 0, .slice none 0 0, .bool false, .bool false, .slice none 0 0, .slice none 0 0, .slice none 0 0, .slice none 0 0, .pointer none, .pointer none, .slice none 0 0, .slice none 0 0, .int .i64 0, .int .i64 0]
def DropPost (p g cap long : Nat) (T : List Lx.Tok) (x : List UInt8) (s' : PSt) (w : World) (e : Ending) (w' : World) : Prop := e = .returned (dropV x) ∧ PsAt w' p g cap long T s' ∧ LeP p w w'
set_option maxHeartbeats 8000000 in
theorem drop_any (p g cap long : Nat) (T : List Lx.Tok) (s : PSt) (hq : isB T s 2 [84, 65, 66, 76, 69] = true) (w : World) (h : PsAt w p g cap long T s) :
    Calls Tryz.prog 82 #[.pointer (some ⟨p, 0, none⟩)] w (DropPost p g cap long T (takeT T { s with i := s.i + 1 } 1).text (takeP T long { s with i := s.i + 1 } 1) w) := by
  have hpl : p < w.heap.size := h.blk.lt
  have hpw : p ≠ w.heap.size := by omega
  have hgw : g ≠ w.heap.size := by have := h.tok.1; omega
  have hwp : w.heap.size ≠ p := Ne.symm hpw
  have HR0 := Lib.hid (Blk.new w #[.int .i64 0, .string ⟨#[]⟩, .string ⟨#[]⟩, .string ⟨#[]⟩, .int .i64 0, .int .i64 0, .slice none 0 0, .bool false, .bool false, .slice none 0 0, .slice none 0 0, .slice none 0 0, .slice none 0 0, .pointer none, .pointer none, .slice none 0 0, .slice none 0 0, .int .i64 0, .int .i64 0] 59 rfl)
  have hx0 : Ext w (w.alloc (.cells #[.int .i64 0, .string ⟨#[]⟩, .string ⟨#[]⟩, .string ⟨#[]⟩, .int .i64 0, .int .i64 0, .slice none 0 0, .bool false, .bool false, .slice none 0 0, .slice none 0 0, .slice none 0 0, .slice none 0 0, .pointer none, .pointer none, .slice none 0 0, .slice none 0 0, .int .i64 0, .int .i64 0] 59)) := (Ext.refl w).alloc _
  have KW := Lib.hid (pword_any p g cap long T s ⟨#[84, 65, 66, 76, 69]⟩ _ (h.ext hx0))
  rw [show bsl ⟨#[84, 65, 66, 76, 69]⟩ = [84, 65, 66, 76, 69] from rfl, hq] at KW
  have KN := Lib.hid (fun W (hW : PsAt W p g cap long T { s with i := s.i + 1 }) => name_anyP p g cap long T { s with i := s.i + 1 } W hW)
  have HX0 := Lib.hid hx0
  generalize (takeT T { s with i := s.i + 1 } 1).text = tt at KN ⊢
  generalize takeP T long { s with i := s.i + 1 } 1 = s2 at KN ⊢
  clear h hx0 hq
  go_enter Tryz.func82, Tryz.ntmps82
  go_simp
  repeat (first | go_values | go_skip | go_guarded | go_step | go_upon)
  refine Calls.mono KW.out ?_
  rintro e W1 ⟨rfl, hp1, hl1⟩
  have HP1 := Lib.hid (show PsAt W1 p g cap long T { s with i := s.i + 1 } from hp1)
  have HR1 := Lib.hid (hl1.blk HR0.out hwp)
  have HL1 := Lib.hid ((LeP.ofExt HX0.out).trans hl1)
  clear hp1 hl1 HR0 HX0 KW
  go_simp
  repeat (first | go_values | go_skip | go_guarded | go_step | go_upon)
  refine Calls.mono (KN.out W1 HP1.out) ?_
  rintro e W2 ⟨rfl, hp2, hl2⟩
  have HP2 := Lib.hid hp2
  have HR2 := Lib.hid (hl2.blk HR1.out hwp)
  have HL2 := Lib.hid (HL1.out.trans hl2)
  clear hp2 hl2 HP1 HR1 HL1 KN
  go_wp2_with (refine wpList_store_row rfl 59 (.tmp 2) (.tmp 7) rfl w.heap.size #[.int .i64 4, .string ⟨tt.toArray⟩, .string ⟨#[]⟩, .string ⟨#[]⟩, .int .i64 0, .int .i64 0, .slice none 0 0, .bool false, .bool false, .slice none 0 0, .slice none 0 0, .slice none 0 0, .slice none 0 0, .pointer none, .pointer none, .slice none 0 0, .slice none 0 0, .int .i64 0, .int .i64 0] rfl rfl 59 #[.int .i64 0, .string ⟨#[]⟩, .string ⟨#[]⟩, .string ⟨#[]⟩, .int .i64 0, .int .i64 0, .slice none 0 0, .bool false, .bool false, .slice none 0 0, .slice none 0 0, .slice none 0 0, .slice none 0 0, .pointer none, .pointer none, .slice none 0 0, .slice none 0 0, .int .i64 0, .int .i64 0] HR2.out infoSt rfl (by simp [Value.oneCell']) ?_)
  have HR3 := Lib.hid (setRow_heap W2 w.heap.size _ #[.int .i64 4, .string ⟨tt.toArray⟩, .string ⟨#[]⟩, .string ⟨#[]⟩, .int .i64 0, .int .i64 0, .slice none 0 0, .bool false, .bool false, .slice none 0 0, .slice none 0 0, .slice none 0 0, .slice none 0 0, .pointer none, .pointer none, .slice none 0 0, .slice none 0 0, .int .i64 0, .int .i64 0] _ _ HR2.out)
  have HP3 := Lib.hid (HP2.out.row hpw hgw #[.int .i64 4, .string ⟨tt.toArray⟩, .string ⟨#[]⟩, .string ⟨#[]⟩, .int .i64 0, .int .i64 0, .slice none 0 0, .bool false, .bool false, .slice none 0 0, .slice none 0 0, .slice none 0 0, .slice none 0 0, .pointer none, .pointer none, .slice none 0 0, .slice none 0 0, .int .i64 0, .int .i64 0])
  have HL3 := Lib.hid (HL2.out.row (Nat.le_refl _) #[.int .i64 4, .string ⟨tt.toArray⟩, .string ⟨#[]⟩, .string ⟨#[]⟩, .int .i64 0, .int .i64 0, .slice none 0 0, .bool false, .bool false, .slice none 0 0, .slice none 0 0, .slice none 0 0, .slice none 0 0, .pointer none, .pointer none, .slice none 0 0, .slice none 0 0, .int .i64 0, .int .i64 0])
  generalize W2.setRow w.heap.size #[.int .i64 4, .string ⟨tt.toArray⟩, .string ⟨#[]⟩, .string ⟨#[]⟩, .int .i64 0, .int .i64 0, .slice none 0 0, .bool false, .bool false, .slice none 0 0, .slice none 0 0, .slice none 0 0, .slice none 0 0, .pointer none, .pointer none, .slice none 0 0, .slice none 0 0, .int .i64 0, .int .i64 0] = W3 at HR3 HP3 HL3 ⊢
  refine bodyPost_ret (ret_stP rfl _ rfl rfl HR3.out) rfl ?_
  exact ⟨rfl, HP3.out, HL3.out⟩
set_option maxHeartbeats 8000000 in
theorem statement_any (p g cap long : Nat) (T : List Lx.Tok) (s : PSt) (hq1 : isB T s 2 [67, 82, 69, 65, 84, 69] = false) (hq2 : isB T s 2 [68, 82, 79, 80] = true) (hq3 : isB T { s with i := s.i + 1 } 2 [84, 65, 66, 76, 69] = true) (w : World) (h : PsAt w p g cap long T s) :
    Calls Tryz.prog 45 #[.pointer (some ⟨p, 0, none⟩)] w (DropPost p g cap long T (takeT T { s with i := s.i + 1 + 1 } 1).text (takeP T long { s with i := s.i + 1 + 1 } 1) w) := by
  have hpl : p < w.heap.size := h.blk.lt
  have hpw : p ≠ w.heap.size := by omega
  have hgw : g ≠ w.heap.size := by have := h.tok.1; omega
  have hwp : w.heap.size ≠ p := Ne.symm hpw
  have HR0 := Lib.hid (Blk.new w #[.int .i64 0, .string ⟨#[]⟩, .string ⟨#[]⟩, .string ⟨#[]⟩, .int .i64 0, .int .i64 0, .slice none 0 0, .bool false, .bool false, .slice none 0 0, .slice none 0 0, .slice none 0 0, .slice none 0 0, .pointer none, .pointer none, .slice none 0 0, .slice none 0 0, .int .i64 0, .int .i64 0] 59 rfl)
  have hx0 : Ext w (w.alloc (.cells #[.int .i64 0, .string ⟨#[]⟩, .string ⟨#[]⟩, .string ⟨#[]⟩, .int .i64 0, .int .i64 0, .slice none 0 0, .bool false, .bool false, .slice none 0 0, .slice none 0 0, .slice none 0 0, .slice none 0 0, .pointer none, .pointer none, .slice none 0 0, .slice none 0 0, .int .i64 0, .int .i64 0] 59)) := (Ext.refl w).alloc _
  have KW1 := Lib.hid (pword_any p g cap long T s ⟨#[67, 82, 69, 65, 84, 69]⟩ _ (h.ext hx0))
  rw [show bsl ⟨#[67, 82, 69, 65, 84, 69]⟩ = [67, 82, 69, 65, 84, 69] from rfl, hq1] at KW1
  have KW2 := Lib.hid (fun W (hW : PsAt W p g cap long T s) => pword_any p g cap long T s ⟨#[68, 82, 79, 80]⟩ W hW)
  rw [show bsl ⟨#[68, 82, 79, 80]⟩ = [68, 82, 79, 80] from rfl, hq2] at KW2
  have KD := Lib.hid (fun W (hW : PsAt W p g cap long T { s with i := s.i + 1 }) => drop_any p g cap long T { s with i := s.i + 1 } hq3 W hW)
  have HX0 := Lib.hid hx0
  simp only at KD
  generalize (takeT T { s with i := s.i + 1 + 1 } 1).text = tt at KD ⊢
  generalize takeP T long { s with i := s.i + 1 + 1 } 1 = s2 at KD ⊢
  clear h hx0 hq1 hq2 hq3
  go_enter Tryz.func45, Tryz.ntmps45
  go_simp
  repeat (first | go_values | go_skip | go_guarded | go_step | go_upon)
  refine Calls.mono KW1.out ?_
  rintro e W1 ⟨rfl, hp1, hl1⟩
  have HP1 := Lib.hid (show PsAt W1 p g cap long T s from hp1)
  have HR1 := Lib.hid (hl1.blk HR0.out hwp)
  have HL1 := Lib.hid ((LeP.ofExt HX0.out).trans hl1)
  clear hp1 hl1 HR0 HX0 KW1
  go_simp
  repeat (first | go_values | go_skip | go_guarded | go_step | go_upon)
  refine Calls.mono (KW2.out W1 HP1.out) ?_
  rintro e W2 ⟨rfl, hp2, hl2⟩
  have HP2 := Lib.hid (show PsAt W2 p g cap long T { s with i := s.i + 1 } from hp2)
  have HR2 := Lib.hid (hl2.blk HR1.out hwp)
  have HL2 := Lib.hid (HL1.out.trans hl2)
  clear hp2 hl2 HP1 HR1 HL1 KW2
  go_simp
  repeat (first | go_values | go_skip | go_guarded | go_step | go_upon)
  refine Calls.mono (KD.out W2 HP2.out) ?_
  rintro e W3 ⟨rfl, hp3, hl3⟩
  unfold dropV
  have HP3 := Lib.hid hp3
  have HR3 := Lib.hid (hl3.blk HR2.out hwp)
  have HL3 := Lib.hid (HL2.out.trans hl3)
  clear hp3 hl3 HP2 HR2 HL2 KD
  go_wp2_with (refine wpList_store_row rfl 59 (.tmp 2) (.tmp 12) rfl w.heap.size #[.int .i64 4, .string ⟨tt.toArray⟩, .string ⟨#[]⟩, .string ⟨#[]⟩, .int .i64 0, .int .i64 0, .slice none 0 0, .bool false, .bool false, .slice none 0 0, .slice none 0 0, .slice none 0 0, .slice none 0 0, .pointer none, .pointer none, .slice none 0 0, .slice none 0 0, .int .i64 0, .int .i64 0] rfl rfl 59 #[.int .i64 0, .string ⟨#[]⟩, .string ⟨#[]⟩, .string ⟨#[]⟩, .int .i64 0, .int .i64 0, .slice none 0 0, .bool false, .bool false, .slice none 0 0, .slice none 0 0, .slice none 0 0, .slice none 0 0, .pointer none, .pointer none, .slice none 0 0, .slice none 0 0, .int .i64 0, .int .i64 0] HR3.out infoSt rfl (by simp [Value.oneCell']) ?_)
  have HR4 := Lib.hid (setRow_heap W3 w.heap.size _ #[.int .i64 4, .string ⟨tt.toArray⟩, .string ⟨#[]⟩, .string ⟨#[]⟩, .int .i64 0, .int .i64 0, .slice none 0 0, .bool false, .bool false, .slice none 0 0, .slice none 0 0, .slice none 0 0, .slice none 0 0, .pointer none, .pointer none, .slice none 0 0, .slice none 0 0, .int .i64 0, .int .i64 0] _ _ HR3.out)
  have HP4 := Lib.hid (HP3.out.row hpw hgw #[.int .i64 4, .string ⟨tt.toArray⟩, .string ⟨#[]⟩, .string ⟨#[]⟩, .int .i64 0, .int .i64 0, .slice none 0 0, .bool false, .bool false, .slice none 0 0, .slice none 0 0, .slice none 0 0, .slice none 0 0, .pointer none, .pointer none, .slice none 0 0, .slice none 0 0, .int .i64 0, .int .i64 0])
  have HL4 := Lib.hid (HL3.out.row (Nat.le_refl _) #[.int .i64 4, .string ⟨tt.toArray⟩, .string ⟨#[]⟩, .string ⟨#[]⟩, .int .i64 0, .int .i64 0, .slice none 0 0, .bool false, .bool false, .slice none 0 0, .slice none 0 0, .slice none 0 0, .slice none 0 0, .pointer none, .pointer none, .slice none 0 0, .slice none 0 0, .int .i64 0, .int .i64 0])
  generalize W3.setRow w.heap.size #[.int .i64 4, .string ⟨tt.toArray⟩, .string ⟨#[]⟩, .string ⟨#[]⟩, .int .i64 0, .int .i64 0, .slice none 0 0, .bool false, .bool false, .slice none 0 0, .slice none 0 0, .slice none 0 0, .slice none 0 0, .pointer none, .pointer none, .slice none 0 0, .slice none 0 0, .int .i64 0, .int .i64 0] = W4 at HR4 HP4 HL4 ⊢
  refine bodyPost_ret (ret_stP rfl _ rfl rfl HR4.out) rfl ?_
  exact ⟨rfl, HP4.out, HL4.out⟩
end Go.Proofs.YtlhkmdchjklaeaaGreatDoor
