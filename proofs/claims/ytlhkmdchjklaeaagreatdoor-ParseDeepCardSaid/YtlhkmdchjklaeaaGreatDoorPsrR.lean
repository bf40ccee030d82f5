/-
  The parser: a statement's text read (parse.Stmt), DROP TABLE.
-/
import Derived.Test.YtlhkmdchjklaeaaGreatDoorPsrQ
namespace Go.Proofs.YtlhkmdchjklaeaaGreatDoor
open Go.RowKit Go.Lib
set_option maxRecDepth 100000

theorem ret_stP3 {t u v : Tmp} {fn : Func} (h : fn.results = #[.cell t 59, .tmp u, .tmp v]) (tmps : Array Value) {w : World} {g : Nat} {cs : Array Value} (hc : cs.size = 19) (hp : tmps.getD t undef = .pointer (some ⟨g, 0, none⟩)) (hg : Blk w g cs 59) :
    (results fn tmps).run Tryz.prog w = .ok (.tuple #[.agg cs, tmps.getD u undef, tmps.getD v undef]) w := by
  have hp' : tmps[t]?.getD undef = .pointer (some ⟨g, 0, none⟩) := by simpa using hp
  have hr := run_loadVar_row w g 59 59 cs (0, 0) _ hg Tryz.underlying59 rfl (by rw [hc]; kernel_rfl)
  simp [results, h, hp', asAddr, hr]
theorem below_row {B : Nat} {w0 w : World} (h : Below B w0 w) {g : Nat} (hg : B ≤ g) (V : Array Value) : Below B w0 (w.setRow g V) :=
  ⟨h.os, h.tape, h.output, by simpa using h.size, fun i hi => (setRow_other w g i V (by omega)).trans (h.block i hi)⟩
def dropS (T : List Lx.Tok) (long : Nat) : PSt := takeP T long ⟨2, 0, 0, 0⟩ 1
set_option maxHeartbeats 8000000 in
theorem stmt_any (s : ByteArray) (T : List Lx.Tok) (hl : Lx.lex (bsl s) = .ok T) (h0 : T ≠ []) (hT : T.length ≤ 4000)
    (hq1 : isB T ⟨0, 0, 0, 0⟩ 2 [67, 82, 69, 65, 84, 69] = false) (hq2 : isB T ⟨0, 0, 0, 0⟩ 2 [68, 82, 79, 80] = true) (hq3 : isB T ⟨1, 0, 0, 0⟩ 2 [84, 65, 66, 76, 69] = true) (hq4 : isB T (dropS T s.size) 5 [59] = false) (hq5 : (endP T s.size (dropS T s.size)).e = 0)
    (w : World) (hG : GlobL w) (hs : s.size ≤ 4000) :
    Calls Tryz.prog 24 #[.string s] w fun e w' => e = .returned (.tuple #[dropV (takeT T ⟨2, 0, 0, 0⟩ 1).text, .int .i64 0, .int .i64 0]) ∧ Below w.heap.size w w' := by
  have HR0 := Lib.hid (Blk.new w #[.int .i64 0, .string ⟨#[]⟩, .string ⟨#[]⟩, .string ⟨#[]⟩, .int .i64 0, .int .i64 0, .slice none 0 0, .bool false, .bool false, .slice none 0 0, .slice none 0 0, .slice none 0 0, .slice none 0 0, .pointer none, .pointer none, .slice none 0 0, .slice none 0 0, .int .i64 0, .int .i64 0] 59 rfl)
  have hx0 : Ext w (w.alloc (.cells #[.int .i64 0, .string ⟨#[]⟩, .string ⟨#[]⟩, .string ⟨#[]⟩, .int .i64 0, .int .i64 0, .slice none 0 0, .bool false, .bool false, .slice none 0 0, .slice none 0 0, .slice none 0 0, .slice none 0 0, .pointer none, .pointer none, .slice none 0 0, .slice none 0 0, .int .i64 0, .int .i64 0] 59)) := (Ext.refl w).alloc _
  have KB := Lib.hid (begin_any s T hl h0 hT _ (hG.keep hx0) hs)
  have HX0 := Lib.hid hx0
  have KS := Lib.hid (fun p g cap W (hW : PsAt W p g cap s.size T ⟨0, 0, 0, 0⟩) => statement_any p g cap s.size T ⟨0, 0, 0, 0⟩ hq1 hq2 hq3 W hW)
  simp only [Nat.zero_add, Nat.reduceAdd] at KS
  unfold dropS at hq4 hq5
  generalize (takeT T ⟨2, 0, 0, 0⟩ 1).text = tt at KS ⊢
  generalize takeP T s.size ⟨2, 0, 0, 0⟩ 1 = s2 at KS hq4 hq5
  have KO := Lib.hid (fun p g cap W (hW : PsAt W p g cap s.size T s2) => pop_any p g cap s.size T s2 ⟨#[59]⟩ W hW)
  rw [show bsl ⟨#[59]⟩ = [59] from rfl, hq4] at KO
  have KE := Lib.hid (fun p g cap W (hW : PsAt W p g cap s.size T s2) => end_any p g cap s.size T s2 W hW)
  have hA : endA (endP T s.size s2) = 0 := by unfold endA; rw [if_pos hq5]
  rw [hq5, hA] at KE
  clear hx0 hG hl h0 hT hq1 hq2 hq3 hq4 hq5 hA
  unfold dropV
  go_enter Tryz.func24, Tryz.ntmps24
  go_simp
  repeat (first | go_values | go_skip | go_guarded | go_step | go_upon)
  refine Calls.mono KB.out ?_
  rintro e W1 ⟨p, g, cap, rfl, hpw, hgw0, hp1, hb1⟩
  have hwp : w.heap.size ≠ p := by simp at hpw; omega
  have hwl : w.heap.size + 1 ≤ p := by simpa using hpw
  have hgw : g ≠ w.heap.size := by simp at hgw0; omega
  have HP1 := Lib.hid hp1
  have HR1 := Lib.hid (HR0.out.keep hb1)
  have HX1 := Lib.hid (HX0.out.trans hb1)
  clear hp1 hb1 HR0 HX0 KB hpw hgw0
  go_simp
  repeat (first | go_values | go_skip | go_guarded | go_step | go_upon)
  refine Calls.mono (KS.out p g cap W1 HP1.out) ?_
  rintro e W2 ⟨rfl, hp2, hl2⟩
  unfold dropV
  have HP2 := Lib.hid hp2
  have HR2 := Lib.hid (hl2.blk HR1.out hwp)
  have HL2 := Lib.hid (LeP.below HX1.out hl2 (by omega))
  clear hp2 hl2 HP1 HR1 HX1 KS
  go_wp2_with (refine wpList_store_row rfl 59 (.tmp 2) (.tmp 9) rfl w.heap.size #[.int .i64 4, .string ⟨tt.toArray⟩, .string ⟨#[]⟩, .string ⟨#[]⟩, .int .i64 0, .int .i64 0, .slice none 0 0, .bool false, .bool false, .slice none 0 0, .slice none 0 0, .slice none 0 0, .slice none 0 0, .pointer none, .pointer none, .slice none 0 0, .slice none 0 0, .int .i64 0, .int .i64 0] rfl rfl 59 #[.int .i64 0, .string ⟨#[]⟩, .string ⟨#[]⟩, .string ⟨#[]⟩, .int .i64 0, .int .i64 0, .slice none 0 0, .bool false, .bool false, .slice none 0 0, .slice none 0 0, .slice none 0 0, .slice none 0 0, .pointer none, .pointer none, .slice none 0 0, .slice none 0 0, .int .i64 0, .int .i64 0] HR2.out infoSt rfl (by simp [Value.oneCell']) ?_; have HR3 := Lib.hid (setRow_heap W2 w.heap.size _ #[.int .i64 4, .string ⟨tt.toArray⟩, .string ⟨#[]⟩, .string ⟨#[]⟩, .int .i64 0, .int .i64 0, .slice none 0 0, .bool false, .bool false, .slice none 0 0, .slice none 0 0, .slice none 0 0, .slice none 0 0, .pointer none, .pointer none, .slice none 0 0, .slice none 0 0, .int .i64 0, .int .i64 0] _ _ HR2.out); have HP3 := Lib.hid (HP2.out.row (Ne.symm hwp) hgw #[.int .i64 4, .string ⟨tt.toArray⟩, .string ⟨#[]⟩, .string ⟨#[]⟩, .int .i64 0, .int .i64 0, .slice none 0 0, .bool false, .bool false, .slice none 0 0, .slice none 0 0, .slice none 0 0, .slice none 0 0, .pointer none, .pointer none, .slice none 0 0, .slice none 0 0, .int .i64 0, .int .i64 0]); have HL3 := Lib.hid (below_row HL2.out (Nat.le_refl _) #[.int .i64 4, .string ⟨tt.toArray⟩, .string ⟨#[]⟩, .string ⟨#[]⟩, .int .i64 0, .int .i64 0, .slice none 0 0, .bool false, .bool false, .slice none 0 0, .slice none 0 0, .slice none 0 0, .slice none 0 0, .pointer none, .pointer none, .slice none 0 0, .slice none 0 0, .int .i64 0, .int .i64 0]); generalize W2.setRow w.heap.size #[.int .i64 4, .string ⟨tt.toArray⟩, .string ⟨#[]⟩, .string ⟨#[]⟩, .int .i64 0, .int .i64 0, .slice none 0 0, .bool false, .bool false, .slice none 0 0, .slice none 0 0, .slice none 0 0, .slice none 0 0, .pointer none, .pointer none, .slice none 0 0, .slice none 0 0, .int .i64 0, .int .i64 0] = W3 at HR3 HP3 HL3 ⊢; clear HR2 HP2 HL2)
  refine Calls.mono (KO.out p g cap W3 HP3.out) ?_
  rintro e W4 ⟨rfl, hp4, hl4⟩
  have HP4 := Lib.hid (show PsAt W4 p g cap s.size T s2 from hp4)
  have HR4 := Lib.hid (hl4.blk HR3.out hwp)
  have HL4 := Lib.hid (LeP.below HL3.out hl4 (by omega))
  clear hp4 hl4 HP3 HR3 HL3 KO
  go_simp
  repeat (first | go_values | go_skip | go_guarded | go_step | go_upon)
  refine Calls.mono (KE.out p g cap W4 HP4.out) ?_
  rintro e W5 ⟨rfl, hl5⟩
  have HR5 := Lib.hid (hl5.blk HR4.out hwp)
  have HL5 := Lib.hid (LeP.below HL4.out hl5 (by omega))
  clear hl5 HP4 HR4 HL4 KE
  have HR6 := Lib.hid (setRow_heap W5 w.heap.size _ #[.int .i64 4, .string ⟨tt.toArray⟩, .string ⟨#[]⟩, .string ⟨#[]⟩, .int .i64 0, .int .i64 0, .slice none 0 0, .bool false, .bool false, .slice none 0 0, .slice none 0 0, .slice none 0 0, .slice none 0 0, .pointer none, .pointer none, .slice none 0 0, .slice none 0 0, .int .i64 0, .int .i64 0] _ _ HR5.out)
  have HL6 := Lib.hid (below_row HL5.out (Nat.le_refl _) #[.int .i64 4, .string ⟨tt.toArray⟩, .string ⟨#[]⟩, .string ⟨#[]⟩, .int .i64 0, .int .i64 0, .slice none 0 0, .bool false, .bool false, .slice none 0 0, .slice none 0 0, .slice none 0 0, .slice none 0 0, .pointer none, .pointer none, .slice none 0 0, .slice none 0 0, .int .i64 0, .int .i64 0])
  go_wp2_with (first
    | refine wpList_load_row rfl 59 (.tmp 2) rfl w.heap.size rfl 59 #[.int .i64 4, .string ⟨tt.toArray⟩, .string ⟨#[]⟩, .string ⟨#[]⟩, .int .i64 0, .int .i64 0, .slice none 0 0, .bool false, .bool false, .slice none 0 0, .slice none 0 0, .slice none 0 0, .slice none 0 0, .pointer none, .pointer none, .slice none 0 0, .slice none 0 0, .int .i64 0, .int .i64 0] (0, 0) _ HR5.out Tryz.underlying59 rfl (by kernel_rfl) ?_
    | (refine wpList_store_row rfl 59 (.tmp 2) (.tmp 22) rfl w.heap.size #[.int .i64 4, .string ⟨tt.toArray⟩, .string ⟨#[]⟩, .string ⟨#[]⟩, .int .i64 0, .int .i64 0, .slice none 0 0, .bool false, .bool false, .slice none 0 0, .slice none 0 0, .slice none 0 0, .slice none 0 0, .pointer none, .pointer none, .slice none 0 0, .slice none 0 0, .int .i64 0, .int .i64 0] rfl rfl 59 #[.int .i64 4, .string ⟨tt.toArray⟩, .string ⟨#[]⟩, .string ⟨#[]⟩, .int .i64 0, .int .i64 0, .slice none 0 0, .bool false, .bool false, .slice none 0 0, .slice none 0 0, .slice none 0 0, .slice none 0 0, .pointer none, .pointer none, .slice none 0 0, .slice none 0 0, .int .i64 0, .int .i64 0] HR5.out infoSt rfl (by simp [Value.oneCell']) ?_; generalize W5.setRow w.heap.size #[.int .i64 4, .string ⟨tt.toArray⟩, .string ⟨#[]⟩, .string ⟨#[]⟩, .int .i64 0, .int .i64 0, .slice none 0 0, .bool false, .bool false, .slice none 0 0, .slice none 0 0, .slice none 0 0, .slice none 0 0, .pointer none, .pointer none, .slice none 0 0, .slice none 0 0, .int .i64 0, .int .i64 0] = W6 at HR6 HL6 ⊢; clear HR5 HL5)
    | (refine bodyPost_ret (ret_stP3 rfl _ rfl rfl HR6.out) rfl ?_))
  exact HL6.out
end Go.Proofs.YtlhkmdchjklaeaaGreatDoor
