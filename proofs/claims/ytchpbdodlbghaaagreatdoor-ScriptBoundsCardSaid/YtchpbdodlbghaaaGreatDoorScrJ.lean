import Derived.Test.YtchpbdodlbghaaaGreatDoorScrD
import Derived.Test.YtchpbdodlbghaaaGreatDoorScrH
namespace Go.Proofs.YtchpbdodlbghaaaGreatDoor
open Go.RowKit Go.Lib
set_option maxRecDepth 100000

def ctT : List Lx.Tok := [⟨2, [67, 82, 69, 65, 84, 69], 0, 0⟩, ⟨2, [84, 65, 66, 76, 69], 0, 7⟩, ⟨1, [116], 0, 13⟩, ⟨5, [40], 0, 15⟩, ⟨1, [97], 0, 16⟩, ⟨2, [73, 78, 84], 0, 18⟩, ⟨5, [41], 0, 21⟩]
theorem lex_ct : Lx.lex ctL = .ok ctT := by kernel_rfl
def ctS (k : Nat) : PSt := ⟨k, 0, 0, 0⟩
def ctV (gc cp : Nat) : Value := .agg #[.int .i64 2, .string ⟨#[116]⟩, .string ⟨#[]⟩, .string ⟨#[]⟩, .int .i64 0, .int .i64 0, .slice (some ⟨gc, 0, none⟩) 1 cp, .bool false, .bool false, .slice none 0 0, .slice none 0 0, .slice none 0 0, .slice none 0 0, .pointer none, .pointer none, .slice none 0 0, .slice none 0 0, .int .i64 0, .int .i64 0]
def colL : List Value := [.string ⟨#[97]⟩, .string ⟨#[]⟩, .int .i64 2, .bool false, .bool false, .bool false]
theorem infoCol : (Tryz.prog.info? 175).map (·.size) = some 6 := by kernel_rfl
theorem infoCol3 : (Tryz.prog.info? 175).map (fun i => (i.zero, i.size, i.bytes)) = some (some (.agg #[.string ⟨#[]⟩, .string ⟨#[]⟩, .int .i64 0, .bool false, .bool false, .bool false]), 6, 48) := by kernel_rfl
def PR (p g cap : Nat) (k : Nat) (w : World) (e : Ending) (w' : World) : Prop := ∃ gc cp cur, e = .returned (ctV gc cp) ∧ w.heap.size ≤ gc ∧ Blk w' gc cur 175 ∧ cur.toList.take 6 = colL ∧ PsAt w' p g cap 22 ctT (ctS k) ∧ LeP p w w'
section
variable (p g cap : Nat)
theorem ct_word (k : Nat) (x : ByteArray) (b : Bool) (hb : isB ctT (ctS k) 2 (bsl x) = b) (w : World) (h : PsAt w p g cap 22 ctT (ctS k)) : Calls Tryz.prog 71 #[.pointer (some ⟨p, 0, none⟩), .string x] w (PP p g cap 22 ctT (advP b (ctS k)) (.bool b) w) := by
  have := pword_any p g cap 22 ctT (ctS k) x w h
  rw [hb] at this
  exact this
theorem ct_op (k : Nat) (x : ByteArray) (b : Bool) (hb : isB ctT (ctS k) 5 (bsl x) = b) (w : World) (h : PsAt w p g cap 22 ctT (ctS k)) : Calls Tryz.prog 49 #[.pointer (some ⟨p, 0, none⟩), .string x] w (PP p g cap 22 ctT (advP b (ctS k)) (.bool b) w) := by
  have := pop_any p g cap 22 ctT (ctS k) x w h
  rw [hb] at this
  exact this
theorem ct_wantOp (k k' : Nat) (x : ByteArray) (hs : wantF ctT 22 (ctS k) (bsl x) = ctS k') (w : World) (h : PsAt w p g cap 22 ctT (ctS k)) : Calls Tryz.prog 126 #[.pointer (some ⟨p, 0, none⟩), .string x] w (PP p g cap 22 ctT (ctS k') (.tuple #[]) w) := by
  have := wantOp_any p g cap 22 ctT (ctS k) x w h
  rw [hs] at this
  exact this
theorem ct_name (k k' : Nat) (x : List UInt8) (hx : (takeT ctT (ctS k) 1).text = x) (hs : takeP ctT 22 (ctS k) 1 = ctS k') (w : World) (h : PsAt w p g cap 22 ctT (ctS k)) : Calls Tryz.prog 125 #[.pointer (some ⟨p, 0, none⟩)] w (PP p g cap 22 ctT (ctS k') (.string ⟨x.toArray⟩) w) := by
  have := name_anyP p g cap 22 ctT (ctS k) w h
  rw [hx, hs] at this
  exact this
theorem ct_kind (w : World) (h : PsAt w p g cap 22 ctT (ctS 5)) : Calls Tryz.prog 197 #[.pointer (some ⟨p, 0, none⟩)] w (PP p g cap 22 ctT (ctS 6) (.int .i64 2) w) := by
  have := kind_any p g cap 22 ctT (ctS 5) w h
  rw [show kindF ctT 22 (ctS 5) = (2, ctS 6) from rfl] at this
  exact this
set_option maxHeartbeats 1000000 in
theorem ct_named (w : World) (h : PsAt w p g cap 22 ctT (ctS 6)) : Calls Tryz.prog 198 #[.pointer (some ⟨p, 0, none⟩), .string ⟨#[67, 79, 76, 76, 65, 84, 69]⟩] w (PP p g cap 22 ctT (ctS 6) (.string ⟨#[]⟩) w) := by
  have KW := Lib.hid (ct_word p g cap 6 ⟨#[67, 79, 76, 76, 65, 84, 69]⟩ false rfl w h)
  clear h
  go_enter Tryz.func198, Tryz.ntmps198
  go_simp
  repeat (first | go_values | go_skip | go_guarded | go_step | go_upon)
  refine Calls.mono KW.out ?_
  rintro e W1 ⟨rfl, hp, hl⟩
  go_simp
  repeat (first | go_values | go_skip | go_guarded | go_step | go_upon)
  go_returns
  exact ⟨rfl, hp, hl⟩
set_option maxHeartbeats 8000000 in
theorem table_ct (w : World) (h : PsAt w p g cap 22 ctT (ctS 2)) : Calls Tryz.prog 123 #[.pointer (some ⟨p, 0, none⟩)] w (PR p g cap 7 w) := by
  have hpl : p < w.heap.size := h.blk.lt
  have hgl : g < w.heap.size := h.tok.1
  have hpw : p ≠ w.heap.size := by omega
  have hgw : g ≠ w.heap.size := by omega
  have hwp : w.heap.size ≠ p := Ne.symm hpw
  have HR0 := Lib.hid (Blk.new w #[.int .i64 0, .string ⟨#[]⟩, .string ⟨#[]⟩, .string ⟨#[]⟩, .int .i64 0, .int .i64 0, .slice none 0 0, .bool false, .bool false, .slice none 0 0, .slice none 0 0, .slice none 0 0, .slice none 0 0, .pointer none, .pointer none, .slice none 0 0, .slice none 0 0, .int .i64 0, .int .i64 0] 102 rfl)
  have hx0 : Ext w (w.alloc (.cells #[.int .i64 0, .string ⟨#[]⟩, .string ⟨#[]⟩, .string ⟨#[]⟩, .int .i64 0, .int .i64 0, .slice none 0 0, .bool false, .bool false, .slice none 0 0, .slice none 0 0, .slice none 0 0, .slice none 0 0, .pointer none, .pointer none, .slice none 0 0, .slice none 0 0, .int .i64 0, .int .i64 0] 102)) := (Ext.refl w).alloc _
  have HP0 := Lib.hid (h.ext hx0)
  have HL0 := Lib.hid (LeP.ofExt (p := p) hx0)
  clear h hx0
  have KN0 := Lib.hid (fun W hW => ct_name p g cap 2 3 [116] rfl rfl W hW)
  have KN1 := Lib.hid (fun W hW => ct_name p g cap 4 5 [97] rfl rfl W hW)
  have KO := Lib.hid (fun W hW => ct_wantOp p g cap 3 4 ⟨#[40]⟩ rfl W hW)
  have KS := Lib.hid (fun W hW => ct_wantOp p g cap 6 7 ⟨#[41]⟩ rfl W hW)
  have KK := Lib.hid (fun W hW => ct_kind p g cap W hW)
  have KC := Lib.hid (fun W hW => ct_named p g cap W hW)
  have KNo := Lib.hid (fun W hW => ct_word p g cap 6 ⟨#[78, 79, 84]⟩ false rfl W hW)
  have KU := Lib.hid (fun W hW => ct_word p g cap 6 ⟨#[85, 78, 73, 81, 85, 69]⟩ false rfl W hW)
  have KCo := Lib.hid (fun W hW => ct_op p g cap 6 ⟨#[44]⟩ false rfl W hW)
  go_enter Tryz.func123, Tryz.ntmps123
  go_simp
  repeat (first | go_values | go_skip | go_guarded | go_step | go_upon)
  refine Calls.mono (KN0.out _ HP0.out) ?_
  rintro e W1 ⟨rfl, hp, hl⟩
  have HP1 := Lib.hid hp
  have HR1 := Lib.hid (hl.blk HR0.out hwp)
  have HL1 := Lib.hid (HL0.out.trans hl)
  clear hp hl HP0 HR0 HL0
  have hsz1 := HL1.out.size
  have hrl := HR1.out.lt
  have hps : p ≠ W1.heap.size := by omega
  have hsp : W1.heap.size ≠ p := Ne.symm hps
  have hgs : g ≠ W1.heap.size := by omega
  have hrs : w.heap.size ≠ W1.heap.size := by omega
  have hsw : w.heap.size ≤ W1.heap.size := by omega
  have hxa : Ext W1 (W1.alloc (.cells #[.int .i64 0, .string ⟨#[]⟩, .string ⟨#[]⟩, .string ⟨#[]⟩, .int .i64 0, .int .i64 0, .slice none 0 0, .bool false, .bool false, .slice none 0 0, .slice none 0 0, .slice none 0 0, .slice none 0 0, .pointer none, .pointer none, .slice none 0 0, .slice none 0 0, .int .i64 0, .int .i64 0] 102)) := (Ext.refl W1).alloc _
  have HSa := Lib.hid (Blk.new W1 #[.int .i64 0, .string ⟨#[]⟩, .string ⟨#[]⟩, .string ⟨#[]⟩, .int .i64 0, .int .i64 0, .slice none 0 0, .bool false, .bool false, .slice none 0 0, .slice none 0 0, .slice none 0 0, .slice none 0 0, .pointer none, .pointer none, .slice none 0 0, .slice none 0 0, .int .i64 0, .int .i64 0] 102 rfl)
  have HPa := Lib.hid (HP1.out.ext hxa)
  have HRa := Lib.hid (HR1.out.keep hxa)
  have HLa := Lib.hid (HL1.out.trans (LeP.ofExt hxa))
  go_upto_region 2 with (generalize W1.alloc (.cells #[.int .i64 0, .string ⟨#[]⟩, .string ⟨#[]⟩, .string ⟨#[]⟩, .int .i64 0, .int .i64 0, .slice none 0 0, .bool false, .bool false, .slice none 0 0, .slice none 0 0, .slice none 0 0, .slice none 0 0, .pointer none, .pointer none, .slice none 0 0, .slice none 0 0, .int .i64 0, .int .i64 0] 102) = Wa at HSa HPa HRa HLa ⊢; refine wpList_store_row rfl 102 (.tmp 3) (.tmp 8) rfl W1.heap.size #[.int .i64 2, .string ⟨#[116]⟩, .string ⟨#[]⟩, .string ⟨#[]⟩, .int .i64 0, .int .i64 0, .slice none 0 0, .bool false, .bool false, .slice none 0 0, .slice none 0 0, .slice none 0 0, .slice none 0 0, .pointer none, .pointer none, .slice none 0 0, .slice none 0 0, .int .i64 0, .int .i64 0] rfl rfl 102 #[.int .i64 0, .string ⟨#[]⟩, .string ⟨#[]⟩, .string ⟨#[]⟩, .int .i64 0, .int .i64 0, .slice none 0 0, .bool false, .bool false, .slice none 0 0, .slice none 0 0, .slice none 0 0, .slice none 0 0, .pointer none, .pointer none, .slice none 0 0, .slice none 0 0, .int .i64 0, .int .i64 0] HSa.out infoSt rfl (by simp [Value.oneCell']) ?_)
  have HS2 := Lib.hid (show Blk (Wa.setRow W1.heap.size #[.int .i64 2, .string ⟨#[116]⟩, .string ⟨#[]⟩, .string ⟨#[]⟩, .int .i64 0, .int .i64 0, .slice none 0 0, .bool false, .bool false, .slice none 0 0, .slice none 0 0, .slice none 0 0, .slice none 0 0, .pointer none, .pointer none, .slice none 0 0, .slice none 0 0, .int .i64 0, .int .i64 0]) W1.heap.size #[.int .i64 2, .string ⟨#[116]⟩, .string ⟨#[]⟩, .string ⟨#[]⟩, .int .i64 0, .int .i64 0, .slice none 0 0, .bool false, .bool false, .slice none 0 0, .slice none 0 0, .slice none 0 0, .slice none 0 0, .pointer none, .pointer none, .slice none 0 0, .slice none 0 0, .int .i64 0, .int .i64 0] 102 from setRow_heap Wa W1.heap.size #[.int .i64 0, .string ⟨#[]⟩, .string ⟨#[]⟩, .string ⟨#[]⟩, .int .i64 0, .int .i64 0, .slice none 0 0, .bool false, .bool false, .slice none 0 0, .slice none 0 0, .slice none 0 0, .slice none 0 0, .pointer none, .pointer none, .slice none 0 0, .slice none 0 0, .int .i64 0, .int .i64 0] #[.int .i64 2, .string ⟨#[116]⟩, .string ⟨#[]⟩, .string ⟨#[]⟩, .int .i64 0, .int .i64 0, .slice none 0 0, .bool false, .bool false, .slice none 0 0, .slice none 0 0, .slice none 0 0, .slice none 0 0, .pointer none, .pointer none, .slice none 0 0, .slice none 0 0, .int .i64 0, .int .i64 0] _ _ HSa.out)
  have HP2 := Lib.hid (HPa.out.row hps hgs #[.int .i64 2, .string ⟨#[116]⟩, .string ⟨#[]⟩, .string ⟨#[]⟩, .int .i64 0, .int .i64 0, .slice none 0 0, .bool false, .bool false, .slice none 0 0, .slice none 0 0, .slice none 0 0, .slice none 0 0, .pointer none, .pointer none, .slice none 0 0, .slice none 0 0, .int .i64 0, .int .i64 0])
  have HR2 := Lib.hid (show Blk (Wa.setRow W1.heap.size #[.int .i64 2, .string ⟨#[116]⟩, .string ⟨#[]⟩, .string ⟨#[]⟩, .int .i64 0, .int .i64 0, .slice none 0 0, .bool false, .bool false, .slice none 0 0, .slice none 0 0, .slice none 0 0, .slice none 0 0, .pointer none, .pointer none, .slice none 0 0, .slice none 0 0, .int .i64 0, .int .i64 0]) w.heap.size #[.int .i64 0, .string ⟨#[]⟩, .string ⟨#[]⟩, .string ⟨#[]⟩, .int .i64 0, .int .i64 0, .slice none 0 0, .bool false, .bool false, .slice none 0 0, .slice none 0 0, .slice none 0 0, .slice none 0 0, .pointer none, .pointer none, .slice none 0 0, .slice none 0 0, .int .i64 0, .int .i64 0] 102 from (setRow_other Wa W1.heap.size w.heap.size #[.int .i64 2, .string ⟨#[116]⟩, .string ⟨#[]⟩, .string ⟨#[]⟩, .int .i64 0, .int .i64 0, .slice none 0 0, .bool false, .bool false, .slice none 0 0, .slice none 0 0, .slice none 0 0, .slice none 0 0, .pointer none, .pointer none, .slice none 0 0, .slice none 0 0, .int .i64 0, .int .i64 0] hrs).trans HRa.out)
  have HL2 := Lib.hid (HLa.out.row hsw #[.int .i64 2, .string ⟨#[116]⟩, .string ⟨#[]⟩, .string ⟨#[]⟩, .int .i64 0, .int .i64 0, .slice none 0 0, .bool false, .bool false, .slice none 0 0, .slice none 0 0, .slice none 0 0, .slice none 0 0, .pointer none, .pointer none, .slice none 0 0, .slice none 0 0, .int .i64 0, .int .i64 0])
  generalize Wa.setRow W1.heap.size #[.int .i64 2, .string ⟨#[116]⟩, .string ⟨#[]⟩, .string ⟨#[]⟩, .int .i64 0, .int .i64 0, .slice none 0 0, .bool false, .bool false, .slice none 0 0, .slice none 0 0, .slice none 0 0, .slice none 0 0, .pointer none, .pointer none, .slice none 0 0, .slice none 0 0, .int .i64 0, .int .i64 0] = W2 at HS2 HP2 HR2 HL2 ⊢
  clear HP1 HR1 HL1 HSa HPa HRa HLa hxa
  obtain ⟨cs, fs⟩ := HS2.out.facts
  have hsl2 := HS2.out.lt
  go_simp
  repeat (first | go_values | go_skip | go_guarded | go_step | go_upon)
  refine Calls.mono (KO.out _ HP2.out) ?_
  rintro e W3 ⟨rfl, hp, hl⟩
  have HP3 := Lib.hid hp
  have HR3 := Lib.hid (hl.blk HR2.out hwp)
  have HS3 := Lib.hid (hl.blk HS2.out hsp)
  have HL3 := Lib.hid (HL2.out.trans hl)
  clear hp hl HP2 HR2 HL2 HS2 cs fs
  obtain ⟨cs, fs⟩ := HS3.out.facts
  have hsl3 := HS3.out.lt
  have c5 : W3.cell? ⟨p, 5, none⟩ = some (.int .i64 0) := HP3.out.blk.cell 5
  have hpl3 := HP3.out.blk.lt
  go_simp
  repeat (first | go_values | go_skip | go_guarded | go_step | go_upon)
  refine wp_loop_rounds 2 ?_
  rw [rounds_succ]
  go_simp
  repeat (first | go_values | go_skip | go_guarded | go_step | go_upon)
  clear c5
  refine Calls.mono (KN1.out _ HP3.out) ?_
  rintro e W4 ⟨rfl, hp, hl⟩
  have HP4 := Lib.hid hp
  have HR4 := Lib.hid (hl.blk HR3.out hwp)
  have HS4 := Lib.hid (hl.blk HS3.out hsp)
  have HL4 := Lib.hid (HL3.out.trans hl)
  clear hp hl HP3 HR3 HL3 HS3 cs fs
  obtain ⟨cs, fs⟩ := HS4.out.facts
  have hsl4 := HS4.out.lt
  go_simp
  repeat (first | go_values | go_skip | go_guarded | go_step | go_upon)
  refine Calls.mono (KK.out _ HP4.out) ?_
  rintro e W5 ⟨rfl, hp, hl⟩
  have HP5 := Lib.hid hp
  have HR5 := Lib.hid (hl.blk HR4.out hwp)
  have HS5 := Lib.hid (hl.blk HS4.out hsp)
  have HL5 := Lib.hid (HL4.out.trans hl)
  clear hp hl HP4 HR4 HL4 HS4 cs fs
  obtain ⟨cs, fs⟩ := HS5.out.facts
  have hsl5 := HS5.out.lt
  go_simp
  repeat (first | go_values | go_skip | go_guarded | go_step | go_upon)
  refine Calls.mono (KC.out _ HP5.out) ?_
  rintro e W6 ⟨rfl, hp, hl⟩
  have HP6 := Lib.hid hp
  have HR6 := Lib.hid (hl.blk HR5.out hwp)
  have HS6 := Lib.hid (hl.blk HS5.out hsp)
  have HL6 := Lib.hid (HL5.out.trans hl)
  clear hp hl HP5 HR5 HL5 HS5 cs fs
  obtain ⟨cs, fs⟩ := HS6.out.facts
  have hsl6 := HS6.out.lt
  have hszK := HL6.out.size
  have hpc : p ≠ W6.heap.size := by omega
  have hcp : W6.heap.size ≠ p := Ne.symm hpc
  have hgc : g ≠ W6.heap.size := by omega
  have hrc : w.heap.size ≠ W6.heap.size := by omega
  have hsc : W1.heap.size ≠ W6.heap.size := by omega
  have hwc : w.heap.size ≤ W6.heap.size := by omega
  have hxa : Ext W6 (W6.alloc (.cells #[.string ⟨#[]⟩, .string ⟨#[]⟩, .int .i64 0, .bool false, .bool false, .bool false] 175)) := (Ext.refl W6).alloc _
  have HCa := Lib.hid (Blk.new W6 #[.string ⟨#[]⟩, .string ⟨#[]⟩, .int .i64 0, .bool false, .bool false, .bool false] 175 rfl)
  have HPa := Lib.hid (HP6.out.ext hxa)
  have HRa := Lib.hid (HR6.out.keep hxa)
  have HSa := Lib.hid (HS6.out.keep hxa)
  have HLa := Lib.hid (HL6.out.trans (LeP.ofExt hxa))
  go_wp2_with (generalize W6.alloc (.cells #[.string ⟨#[]⟩, .string ⟨#[]⟩, .int .i64 0, .bool false, .bool false, .bool false] 175) = Wb at HCa HPa HRa HSa HLa ⊢; refine wpList_store_row rfl 175 (.tmp 5) (.tmp 27) rfl W6.heap.size #[.string ⟨#[97]⟩, .string ⟨#[]⟩, .int .i64 2, .bool false, .bool false, .bool false] rfl rfl 175 #[.string ⟨#[]⟩, .string ⟨#[]⟩, .int .i64 0, .bool false, .bool false, .bool false] HCa.out infoCol rfl (by simp [Value.oneCell']) ?_; have HC7 := Lib.hid (show Blk (Wb.setRow W6.heap.size #[.string ⟨#[97]⟩, .string ⟨#[]⟩, .int .i64 2, .bool false, .bool false, .bool false]) W6.heap.size #[.string ⟨#[97]⟩, .string ⟨#[]⟩, .int .i64 2, .bool false, .bool false, .bool false] 175 from setRow_heap Wb W6.heap.size #[.string ⟨#[]⟩, .string ⟨#[]⟩, .int .i64 0, .bool false, .bool false, .bool false] #[.string ⟨#[97]⟩, .string ⟨#[]⟩, .int .i64 2, .bool false, .bool false, .bool false] _ _ HCa.out); have HP7 := Lib.hid (HPa.out.row hpc hgc #[.string ⟨#[97]⟩, .string ⟨#[]⟩, .int .i64 2, .bool false, .bool false, .bool false]); have HR7 := Lib.hid (show Blk (Wb.setRow W6.heap.size #[.string ⟨#[97]⟩, .string ⟨#[]⟩, .int .i64 2, .bool false, .bool false, .bool false]) w.heap.size #[.int .i64 0, .string ⟨#[]⟩, .string ⟨#[]⟩, .string ⟨#[]⟩, .int .i64 0, .int .i64 0, .slice none 0 0, .bool false, .bool false, .slice none 0 0, .slice none 0 0, .slice none 0 0, .slice none 0 0, .pointer none, .pointer none, .slice none 0 0, .slice none 0 0, .int .i64 0, .int .i64 0] 102 from (setRow_other Wb W6.heap.size w.heap.size #[.string ⟨#[97]⟩, .string ⟨#[]⟩, .int .i64 2, .bool false, .bool false, .bool false] hrc).trans HRa.out); have HS7 := Lib.hid (show Blk (Wb.setRow W6.heap.size #[.string ⟨#[97]⟩, .string ⟨#[]⟩, .int .i64 2, .bool false, .bool false, .bool false]) W1.heap.size #[.int .i64 2, .string ⟨#[116]⟩, .string ⟨#[]⟩, .string ⟨#[]⟩, .int .i64 0, .int .i64 0, .slice none 0 0, .bool false, .bool false, .slice none 0 0, .slice none 0 0, .slice none 0 0, .slice none 0 0, .pointer none, .pointer none, .slice none 0 0, .slice none 0 0, .int .i64 0, .int .i64 0] 102 from (setRow_other Wb W6.heap.size W1.heap.size #[.string ⟨#[97]⟩, .string ⟨#[]⟩, .int .i64 2, .bool false, .bool false, .bool false] hsc).trans HSa.out); have HL7 := Lib.hid (HLa.out.row hwc #[.string ⟨#[97]⟩, .string ⟨#[]⟩, .int .i64 2, .bool false, .bool false, .bool false]); generalize Wb.setRow W6.heap.size #[.string ⟨#[97]⟩, .string ⟨#[]⟩, .int .i64 2, .bool false, .bool false, .bool false] = W7 at HC7 HP7 HR7 HS7 HL7 ⊢; clear HCa HPa HRa HSa HLa hxa cs fs; obtain ⟨cs, fs⟩ := HS7.out.facts; obtain ⟨cc, fc⟩ := HC7.out.facts; have hsl7 := HS7.out.lt; have hcl7 := HC7.out.lt)
  refine Calls.mono (KNo.out _ HP7.out) ?_
  rintro e W8 ⟨rfl, hp, hl⟩
  have HP8 := Lib.hid hp
  have HR8 := Lib.hid (hl.blk HR7.out hwp)
  have HS8 := Lib.hid (hl.blk HS7.out hsp)
  have HC8 := Lib.hid (hl.blk HC7.out hcp)
  have HL8 := Lib.hid (HL7.out.trans hl)
  clear hp hl HP7 HR7 HL7 HS7 cs fs HC7 cc fc
  obtain ⟨cs, fs⟩ := HS8.out.facts
  have hsl8 := HS8.out.lt
  obtain ⟨cc, fc⟩ := HC8.out.facts
  have hcl8 := HC8.out.lt
  go_simp
  repeat (first | go_values | go_skip | go_guarded | go_step | go_upon)
  refine Calls.mono (KU.out _ HP8.out) ?_
  rintro e W9 ⟨rfl, hp, hl⟩
  have HP9 := Lib.hid hp
  have HR9 := Lib.hid (hl.blk HR8.out hwp)
  have HS9 := Lib.hid (hl.blk HS8.out hsp)
  have HC9 := Lib.hid (hl.blk HC8.out hcp)
  have HL9 := Lib.hid (HL8.out.trans hl)
  clear hp hl HP8 HR8 HL8 HS8 cs fs HC8 cc fc
  obtain ⟨cs, fs⟩ := HS9.out.facts
  have hsl9 := HS9.out.lt
  obtain ⟨cc, fc⟩ := HC9.out.facts
  have hcl9 := HC9.out.lt
  go_simp
  go_upto_region 11 with (fail)
  have HP10 := Lib.hid (HP9.out.other hpc hgc 5 (.bool false))
  have HR10 := Lib.hid (HR9.out.other (a := ⟨W6.heap.size, 5, none⟩) hrc (.bool false))
  have HS10 := Lib.hid (HS9.out.other (a := ⟨W6.heap.size, 5, none⟩) hsc (.bool false))
  have HC10 := Lib.hid (show Blk (W9.setCell ⟨W6.heap.size, 5, none⟩ (.bool false)) W6.heap.size #[.string ⟨#[97]⟩, .string ⟨#[]⟩, .int .i64 2, .bool false, .bool false, .bool false] 175 from HC9.out.set 5 (.bool false))
  have HL10 := Lib.hid (HL9.out.cell hwc 5 (.bool false))
  generalize W9.setCell ⟨W6.heap.size, 5, none⟩ (.bool false) = W10 at HP10 HR10 HS10 HC10 HL10 ⊢
  clear HP9 HR9 HS9 HC9 HL9 cs fs cc fc
  obtain ⟨cs, fs⟩ := HS10.out.facts
  obtain ⟨cc, fc⟩ := HC10.out.facts
  have hsl10 := HS10.out.lt
  have hcl10 := HC10.out.lt
  have HW10 := Lib.hid HL10.out.size
  go_simp
  repeat (first | go_values | go_skip | go_guarded | go_step | go_upon)
  generalize (Question.appendCap 1 0 175).cut (W10.tape W10.drawn (Question.appendCap 1 0 175)) = cp
  have hxg : Ext (W10.setCell ⟨W1.heap.size, 6, none⟩ (.slice (some ⟨W10.heap.size + 1, 0, none⟩) 1 cp)) (((W10.setCell ⟨W1.heap.size, 6, none⟩ (.slice (some ⟨W10.heap.size + 1, 0, none⟩) 1 cp)).alloc (.cells #[.string ⟨#[97]⟩, .string ⟨#[]⟩, .int .i64 2, .bool false, .bool false, .bool false] 175)).alloc (.cells ((#[.string ⟨#[97]⟩, .string ⟨#[]⟩, .int .i64 2, .bool false, .bool false, .bool false] : Array Value) ++ Builtin.zeroCells #[.string ⟨#[]⟩, .string ⟨#[]⟩, .int .i64 0, .bool false, .bool false, .bool false] (cp - 1)) 175)).drew := (((Ext.refl _).alloc _).alloc _).drew
  have HP11 := Lib.hid ((HP10.out.other hps hgs 6 (.slice (some ⟨W10.heap.size + 1, 0, none⟩) 1 cp)).ext hxg)
  have HR11 := Lib.hid ((HR10.out.other (a := ⟨W1.heap.size, 6, none⟩) hrs (.slice (some ⟨W10.heap.size + 1, 0, none⟩) 1 cp)).keep hxg)
  have HS11 := Lib.hid (show Blk (((W10.setCell ⟨W1.heap.size, 6, none⟩ (.slice (some ⟨W10.heap.size + 1, 0, none⟩) 1 cp)).alloc (.cells #[.string ⟨#[97]⟩, .string ⟨#[]⟩, .int .i64 2, .bool false, .bool false, .bool false] 175)).alloc (.cells ((#[.string ⟨#[97]⟩, .string ⟨#[]⟩, .int .i64 2, .bool false, .bool false, .bool false] : Array Value) ++ Builtin.zeroCells #[.string ⟨#[]⟩, .string ⟨#[]⟩, .int .i64 0, .bool false, .bool false, .bool false] (cp - 1)) 175)).drew W1.heap.size #[.int .i64 2, .string ⟨#[116]⟩, .string ⟨#[]⟩, .string ⟨#[]⟩, .int .i64 0, .int .i64 0, .slice (some ⟨W10.heap.size + 1, 0, none⟩) 1 cp, .bool false, .bool false, .slice none 0 0, .slice none 0 0, .slice none 0 0, .slice none 0 0, .pointer none, .pointer none, .slice none 0 0, .slice none 0 0, .int .i64 0, .int .i64 0] 102 from (HS10.out.set 6 (.slice (some ⟨W10.heap.size + 1, 0, none⟩) 1 cp)).keep hxg)
  have HC11 := Lib.hid (show Blk (((W10.setCell ⟨W1.heap.size, 6, none⟩ (.slice (some ⟨W10.heap.size + 1, 0, none⟩) 1 cp)).alloc (.cells #[.string ⟨#[97]⟩, .string ⟨#[]⟩, .int .i64 2, .bool false, .bool false, .bool false] 175)).alloc (.cells ((#[.string ⟨#[97]⟩, .string ⟨#[]⟩, .int .i64 2, .bool false, .bool false, .bool false] : Array Value) ++ Builtin.zeroCells #[.string ⟨#[]⟩, .string ⟨#[]⟩, .int .i64 0, .bool false, .bool false, .bool false] (cp - 1)) 175)).drew (W10.heap.size + 1) ((#[.string ⟨#[97]⟩, .string ⟨#[]⟩, .int .i64 2, .bool false, .bool false, .bool false] : Array Value) ++ Builtin.zeroCells #[.string ⟨#[]⟩, .string ⟨#[]⟩, .int .i64 0, .bool false, .bool false, .bool false] (cp - 1)) 175 from (Blk.new ((W10.setCell ⟨W1.heap.size, 6, none⟩ (.slice (some ⟨W10.heap.size + 1, 0, none⟩) 1 cp)).alloc (.cells #[.string ⟨#[97]⟩, .string ⟨#[]⟩, .int .i64 2, .bool false, .bool false, .bool false] 175)) ((#[.string ⟨#[97]⟩, .string ⟨#[]⟩, .int .i64 2, .bool false, .bool false, .bool false] : Array Value) ++ Builtin.zeroCells #[.string ⟨#[]⟩, .string ⟨#[]⟩, .int .i64 0, .bool false, .bool false, .bool false] (cp - 1)) 175 (by simp)).drew)
  have HL11 := Lib.hid ((HL10.out.cell hsw 6 (.slice (some ⟨W10.heap.size + 1, 0, none⟩) 1 cp)).trans (LeP.ofExt hxg))
  have hge : w.heap.size + 1 ≤ W10.heap.size + 1 := by have := HW10.out; omega
  have hcu : (((#[.string ⟨#[97]⟩, .string ⟨#[]⟩, .int .i64 2, .bool false, .bool false, .bool false] : Array Value) ++ Builtin.zeroCells #[.string ⟨#[]⟩, .string ⟨#[]⟩, .int .i64 0, .bool false, .bool false, .bool false] (cp - 1))).toList.take 6 = colL := by simp [colL]
  have HCU := Lib.hid hcu
  clear hcu
  generalize (((W10.setCell ⟨W1.heap.size, 6, none⟩ (.slice (some ⟨W10.heap.size + 1, 0, none⟩) 1 cp)).alloc (.cells #[.string ⟨#[97]⟩, .string ⟨#[]⟩, .int .i64 2, .bool false, .bool false, .bool false] 175)).alloc (.cells ((#[.string ⟨#[97]⟩, .string ⟨#[]⟩, .int .i64 2, .bool false, .bool false, .bool false] : Array Value) ++ Builtin.zeroCells #[.string ⟨#[]⟩, .string ⟨#[]⟩, .int .i64 0, .bool false, .bool false, .bool false] (cp - 1)) 175)).drew = W11 at HP11 HR11 HS11 HC11 HL11 ⊢
  generalize ((#[.string ⟨#[97]⟩, .string ⟨#[]⟩, .int .i64 2, .bool false, .bool false, .bool false] : Array Value) ++ Builtin.zeroCells #[.string ⟨#[]⟩, .string ⟨#[]⟩, .int .i64 0, .bool false, .bool false, .bool false] (cp - 1)) = cur at HC11 HCU ⊢
  generalize W10.heap.size + 1 = gc at HS11 HC11 hge ⊢
  clear hxg HP10 HR10 HS10 HC10 HL10 cs fs cc fc
  have hcp2 : gc ≠ p := by omega
  obtain ⟨cs, fs⟩ := HS11.out.facts
  have hsl11 := HS11.out.lt
  refine Calls.mono (KCo.out _ HP11.out) ?_
  rintro e W12 ⟨rfl, hp, hl⟩
  have HP12 := Lib.hid hp
  have HR12 := Lib.hid (hl.blk HR11.out hwp)
  have HS12 := Lib.hid (hl.blk HS11.out hsp)
  have HC12 := Lib.hid (hl.blk HC11.out hcp2)
  have HL12 := Lib.hid (HL11.out.trans hl)
  clear hp hl HP11 HR11 HL11 HS11 HC11 cs fs
  obtain ⟨cs, fs⟩ := HS12.out.facts
  have hsl12 := HS12.out.lt
  go_simp
  repeat (first | go_values | go_skip | go_guarded | go_step | go_upon)
  rw [rounds_succ]
  go_simp
  repeat (first | go_values | go_skip | go_guarded | go_step | go_upon)
  refine Calls.mono (KS.out _ HP12.out) ?_
  rintro e W13 ⟨rfl, hp, hl⟩
  have HP13 := Lib.hid hp
  have HR13 := Lib.hid (hl.blk HR12.out hwp)
  have HS13 := Lib.hid (hl.blk HS12.out hsp)
  have HC13 := Lib.hid (hl.blk HC12.out hcp2)
  have HL13 := Lib.hid (HL12.out.trans hl)
  clear hp hl HP12 HR12 HL12 HS12 HC12 cs fs
  obtain ⟨cs, fs⟩ := HS13.out.facts
  have hsl13 := HS13.out.lt
  go_wp2_with (first | refine wpList_load_row rfl 102 (.tmp 3) rfl W1.heap.size rfl 102 #[.int .i64 2, .string ⟨#[116]⟩, .string ⟨#[]⟩, .string ⟨#[]⟩, .int .i64 0, .int .i64 0, .slice (some ⟨gc, 0, none⟩) 1 cp, .bool false, .bool false, .slice none 0 0, .slice none 0 0, .slice none 0 0, .slice none 0 0, .pointer none, .pointer none, .slice none 0 0, .slice none 0 0, .int .i64 0, .int .i64 0] (0, 0) _ HS13.out Tryz.underlying102 rfl (by kernel_rfl) ?_ | (refine wpList_store_row rfl 102 (.tmp 2) (.tmp 45) rfl w.heap.size #[.int .i64 2, .string ⟨#[116]⟩, .string ⟨#[]⟩, .string ⟨#[]⟩, .int .i64 0, .int .i64 0, .slice (some ⟨gc, 0, none⟩) 1 cp, .bool false, .bool false, .slice none 0 0, .slice none 0 0, .slice none 0 0, .slice none 0 0, .pointer none, .pointer none, .slice none 0 0, .slice none 0 0, .int .i64 0, .int .i64 0] rfl rfl 102 #[.int .i64 0, .string ⟨#[]⟩, .string ⟨#[]⟩, .string ⟨#[]⟩, .int .i64 0, .int .i64 0, .slice none 0 0, .bool false, .bool false, .slice none 0 0, .slice none 0 0, .slice none 0 0, .slice none 0 0, .pointer none, .pointer none, .slice none 0 0, .slice none 0 0, .int .i64 0, .int .i64 0] HR13.out infoSt rfl (by simp [Value.oneCell']) ?_))
  refine bodyPost_ret (ret_stP rfl _ rfl rfl (setRow_heap W13 w.heap.size #[.int .i64 0, .string ⟨#[]⟩, .string ⟨#[]⟩, .string ⟨#[]⟩, .int .i64 0, .int .i64 0, .slice none 0 0, .bool false, .bool false, .slice none 0 0, .slice none 0 0, .slice none 0 0, .slice none 0 0, .pointer none, .pointer none, .slice none 0 0, .slice none 0 0, .int .i64 0, .int .i64 0] #[.int .i64 2, .string ⟨#[116]⟩, .string ⟨#[]⟩, .string ⟨#[]⟩, .int .i64 0, .int .i64 0, .slice (some ⟨gc, 0, none⟩) 1 cp, .bool false, .bool false, .slice none 0 0, .slice none 0 0, .slice none 0 0, .slice none 0 0, .pointer none, .pointer none, .slice none 0 0, .slice none 0 0, .int .i64 0, .int .i64 0] _ _ HR13.out)) rfl ?_
  exact ⟨gc, cp, cur, rfl, by omega, (setRow_other W13 w.heap.size gc #[.int .i64 2, .string ⟨#[116]⟩, .string ⟨#[]⟩, .string ⟨#[]⟩, .int .i64 0, .int .i64 0, .slice (some ⟨gc, 0, none⟩) 1 cp, .bool false, .bool false, .slice none 0 0, .slice none 0 0, .slice none 0 0, .slice none 0 0, .pointer none, .pointer none, .slice none 0 0, .slice none 0 0, .int .i64 0, .int .i64 0] (by omega)).trans HC13.out, HCU.out, HP13.out.row hpw hgw #[.int .i64 2, .string ⟨#[116]⟩, .string ⟨#[]⟩, .string ⟨#[]⟩, .int .i64 0, .int .i64 0, .slice (some ⟨gc, 0, none⟩) 1 cp, .bool false, .bool false, .slice none 0 0, .slice none 0 0, .slice none 0 0, .slice none 0 0, .pointer none, .pointer none, .slice none 0 0, .slice none 0 0, .int .i64 0, .int .i64 0], HL13.out.row (Nat.le_refl _) #[.int .i64 2, .string ⟨#[116]⟩, .string ⟨#[]⟩, .string ⟨#[]⟩, .int .i64 0, .int .i64 0, .slice (some ⟨gc, 0, none⟩) 1 cp, .bool false, .bool false, .slice none 0 0, .slice none 0 0, .slice none 0 0, .slice none 0 0, .pointer none, .pointer none, .slice none 0 0, .slice none 0 0, .int .i64 0, .int .i64 0]⟩
end
end Go.Proofs.YtchpbdodlbghaaaGreatDoor
namespace Go.Proofs.YtchpbdodlbghaaaGreatDoor
open Go.RowKit Go.Lib
set_option maxRecDepth 100000

set_option maxHeartbeats 8000000 in
theorem create_ct (p g cap : Nat) (w : World) (h : PsAt w p g cap 22 ctT (ctS 1)) : Calls Tryz.prog 72 #[.pointer (some ⟨p, 0, none⟩)] w (PR p g cap 7 w) := by
  have hpl : p < w.heap.size := h.blk.lt
  have hgl : g < w.heap.size := h.tok.1
  have hpw : p ≠ w.heap.size := by omega
  have hgw : g ≠ w.heap.size := by omega
  have hwp : w.heap.size ≠ p := Ne.symm hpw
  have HR0 := Lib.hid (Blk.new w #[.int .i64 0, .string ⟨#[]⟩, .string ⟨#[]⟩, .string ⟨#[]⟩, .int .i64 0, .int .i64 0, .slice none 0 0, .bool false, .bool false, .slice none 0 0, .slice none 0 0, .slice none 0 0, .slice none 0 0, .pointer none, .pointer none, .slice none 0 0, .slice none 0 0, .int .i64 0, .int .i64 0] 102 rfl)
  have hx0 : Ext w (w.alloc (.cells #[.int .i64 0, .string ⟨#[]⟩, .string ⟨#[]⟩, .string ⟨#[]⟩, .int .i64 0, .int .i64 0, .slice none 0 0, .bool false, .bool false, .slice none 0 0, .slice none 0 0, .slice none 0 0, .slice none 0 0, .pointer none, .pointer none, .slice none 0 0, .slice none 0 0, .int .i64 0, .int .i64 0] 102)) := (Ext.refl w).alloc _
  have HP0 := Lib.hid (h.ext hx0)
  have HL0 := Lib.hid (LeP.ofExt (p := p) hx0)
  have hsz0 : w.heap.size + 1 ≤ (w.alloc (.cells #[.int .i64 0, .string ⟨#[]⟩, .string ⟨#[]⟩, .string ⟨#[]⟩, .int .i64 0, .int .i64 0, .slice none 0 0, .bool false, .bool false, .slice none 0 0, .slice none 0 0, .slice none 0 0, .slice none 0 0, .pointer none, .pointer none, .slice none 0 0, .slice none 0 0, .int .i64 0, .int .i64 0] 102)).heap.size := by simp
  have HZ0 := Lib.hid hsz0
  clear h hx0 hsz0
  have KW0 := Lib.hid (fun W hW => ct_word p g cap 1 ⟨#[67, 79, 76, 76, 65, 84, 73, 79, 78]⟩ false rfl W hW)
  have KW1 := Lib.hid (fun W hW => ct_word p g cap 1 ⟨#[84, 65, 66, 76, 69]⟩ true rfl W hW)
  have KT := Lib.hid (fun W hW => table_ct p g cap W hW)
  go_enter Tryz.func72, Tryz.ntmps72
  go_simp
  repeat (first | go_values | go_skip | go_guarded | go_step | go_upon)
  refine Calls.mono (KW0.out _ HP0.out) ?_
  rintro e W1 ⟨rfl, hp, hl⟩
  have HP1 := Lib.hid hp
  have HR1 := Lib.hid (hl.blk HR0.out hwp)
  have HL1 := Lib.hid (HL0.out.trans hl)
  have HZ1 := Lib.hid (Nat.le_trans HZ0.out hl.size)
  clear hp hl HP0 HR0 HL0 HZ0
  go_simp
  repeat (first | go_values | go_skip | go_guarded | go_step | go_upon)
  refine Calls.mono (KW1.out _ HP1.out) ?_
  rintro e W2 ⟨rfl, hp, hl⟩
  have HP2 := Lib.hid hp
  have HR2 := Lib.hid (hl.blk HR1.out hwp)
  have HL2 := Lib.hid (HL1.out.trans hl)
  have HZ2 := Lib.hid (Nat.le_trans HZ1.out hl.size)
  clear hp hl HP1 HR1 HL1 HZ1
  go_simp
  repeat (first | go_values | go_skip | go_guarded | go_step | go_upon)
  refine Calls.mono (KT.out _ HP2.out) ?_
  rintro e W3 ⟨gc, cp, cur, rfl, hg, hc, ht, hp, hl⟩
  have hgn : w.heap.size + 1 ≤ gc := Nat.le_trans HZ2.out hg
  have HP3 := Lib.hid hp
  have HR3 := Lib.hid (hl.blk HR2.out hwp)
  have HL3 := Lib.hid (HL2.out.trans hl)
  have HC := Lib.hid hc
  have HT := Lib.hid ht
  clear hp hl hc ht HP2 HR2 HL2 HZ2 hg
  unfold ctV
  go_wp2_with (refine wpList_store_row rfl 102 (.tmp 2) (.tmp 12) rfl w.heap.size #[.int .i64 2, .string ⟨#[116]⟩, .string ⟨#[]⟩, .string ⟨#[]⟩, .int .i64 0, .int .i64 0, .slice (some ⟨gc, 0, none⟩) 1 cp, .bool false, .bool false, .slice none 0 0, .slice none 0 0, .slice none 0 0, .slice none 0 0, .pointer none, .pointer none, .slice none 0 0, .slice none 0 0, .int .i64 0, .int .i64 0] rfl rfl 102 #[.int .i64 0, .string ⟨#[]⟩, .string ⟨#[]⟩, .string ⟨#[]⟩, .int .i64 0, .int .i64 0, .slice none 0 0, .bool false, .bool false, .slice none 0 0, .slice none 0 0, .slice none 0 0, .slice none 0 0, .pointer none, .pointer none, .slice none 0 0, .slice none 0 0, .int .i64 0, .int .i64 0] HR3.out infoSt rfl (by simp [Value.oneCell']) ?_)
  refine bodyPost_ret (ret_stP rfl _ rfl rfl (setRow_heap W3 w.heap.size #[.int .i64 0, .string ⟨#[]⟩, .string ⟨#[]⟩, .string ⟨#[]⟩, .int .i64 0, .int .i64 0, .slice none 0 0, .bool false, .bool false, .slice none 0 0, .slice none 0 0, .slice none 0 0, .slice none 0 0, .pointer none, .pointer none, .slice none 0 0, .slice none 0 0, .int .i64 0, .int .i64 0] #[.int .i64 2, .string ⟨#[116]⟩, .string ⟨#[]⟩, .string ⟨#[]⟩, .int .i64 0, .int .i64 0, .slice (some ⟨gc, 0, none⟩) 1 cp, .bool false, .bool false, .slice none 0 0, .slice none 0 0, .slice none 0 0, .slice none 0 0, .pointer none, .pointer none, .slice none 0 0, .slice none 0 0, .int .i64 0, .int .i64 0] _ _ HR3.out)) rfl ?_
  exact ⟨gc, cp, cur, rfl, by omega, (setRow_other W3 w.heap.size gc #[.int .i64 2, .string ⟨#[116]⟩, .string ⟨#[]⟩, .string ⟨#[]⟩, .int .i64 0, .int .i64 0, .slice (some ⟨gc, 0, none⟩) 1 cp, .bool false, .bool false, .slice none 0 0, .slice none 0 0, .slice none 0 0, .slice none 0 0, .pointer none, .pointer none, .slice none 0 0, .slice none 0 0, .int .i64 0, .int .i64 0] (by omega)).trans HC.out, HT.out, HP3.out.row hpw hgw #[.int .i64 2, .string ⟨#[116]⟩, .string ⟨#[]⟩, .string ⟨#[]⟩, .int .i64 0, .int .i64 0, .slice (some ⟨gc, 0, none⟩) 1 cp, .bool false, .bool false, .slice none 0 0, .slice none 0 0, .slice none 0 0, .slice none 0 0, .pointer none, .pointer none, .slice none 0 0, .slice none 0 0, .int .i64 0, .int .i64 0], HL3.out.row (Nat.le_refl _) #[.int .i64 2, .string ⟨#[116]⟩, .string ⟨#[]⟩, .string ⟨#[]⟩, .int .i64 0, .int .i64 0, .slice (some ⟨gc, 0, none⟩) 1 cp, .bool false, .bool false, .slice none 0 0, .slice none 0 0, .slice none 0 0, .slice none 0 0, .pointer none, .pointer none, .slice none 0 0, .slice none 0 0, .int .i64 0, .int .i64 0]⟩
set_option maxHeartbeats 8000000 in
theorem statement_ct (p g cap : Nat) (w : World) (h : PsAt w p g cap 22 ctT (ctS 0)) : Calls Tryz.prog 48 #[.pointer (some ⟨p, 0, none⟩)] w (PR p g cap 7 w) := by
  have hpl : p < w.heap.size := h.blk.lt
  have hgl : g < w.heap.size := h.tok.1
  have hpw : p ≠ w.heap.size := by omega
  have hgw : g ≠ w.heap.size := by omega
  have hwp : w.heap.size ≠ p := Ne.symm hpw
  have HR0 := Lib.hid (Blk.new w #[.int .i64 0, .string ⟨#[]⟩, .string ⟨#[]⟩, .string ⟨#[]⟩, .int .i64 0, .int .i64 0, .slice none 0 0, .bool false, .bool false, .slice none 0 0, .slice none 0 0, .slice none 0 0, .slice none 0 0, .pointer none, .pointer none, .slice none 0 0, .slice none 0 0, .int .i64 0, .int .i64 0] 102 rfl)
  have hx0 : Ext w (w.alloc (.cells #[.int .i64 0, .string ⟨#[]⟩, .string ⟨#[]⟩, .string ⟨#[]⟩, .int .i64 0, .int .i64 0, .slice none 0 0, .bool false, .bool false, .slice none 0 0, .slice none 0 0, .slice none 0 0, .slice none 0 0, .pointer none, .pointer none, .slice none 0 0, .slice none 0 0, .int .i64 0, .int .i64 0] 102)) := (Ext.refl w).alloc _
  have HP0 := Lib.hid (h.ext hx0)
  have HL0 := Lib.hid (LeP.ofExt (p := p) hx0)
  have hsz0 : w.heap.size + 1 ≤ (w.alloc (.cells #[.int .i64 0, .string ⟨#[]⟩, .string ⟨#[]⟩, .string ⟨#[]⟩, .int .i64 0, .int .i64 0, .slice none 0 0, .bool false, .bool false, .slice none 0 0, .slice none 0 0, .slice none 0 0, .slice none 0 0, .pointer none, .pointer none, .slice none 0 0, .slice none 0 0, .int .i64 0, .int .i64 0] 102)).heap.size := by simp
  have HZ0 := Lib.hid hsz0
  clear h hx0 hsz0
  have KW0 := Lib.hid (fun W hW => ct_word p g cap 0 ⟨#[67, 82, 69, 65, 84, 69]⟩ true rfl W hW)
  have KT := Lib.hid (fun W hW => create_ct p g cap W hW)
  go_enter Tryz.func48, Tryz.ntmps48
  go_simp
  repeat (first | go_values | go_skip | go_guarded | go_step | go_upon)
  refine Calls.mono (KW0.out _ HP0.out) ?_
  rintro e W1 ⟨rfl, hp, hl⟩
  have HP1 := Lib.hid hp
  have HR1 := Lib.hid (hl.blk HR0.out hwp)
  have HL1 := Lib.hid (HL0.out.trans hl)
  have HZ1 := Lib.hid (Nat.le_trans HZ0.out hl.size)
  clear hp hl HP0 HR0 HL0 HZ0
  go_simp
  repeat (first | go_values | go_skip | go_guarded | go_step | go_upon)
  refine Calls.mono (KT.out _ HP1.out) ?_
  rintro e W2 ⟨gc, cp, cur, rfl, hg, hc, ht, hp, hl⟩
  have hgn : w.heap.size + 1 ≤ gc := Nat.le_trans HZ1.out hg
  have HP2 := Lib.hid hp
  have HR2 := Lib.hid (hl.blk HR1.out hwp)
  have HL2 := Lib.hid (HL1.out.trans hl)
  have HC := Lib.hid hc
  have HT := Lib.hid ht
  clear hp hl hc ht HP1 HR1 HL1 HZ1 hg
  unfold ctV
  go_wp2_with (refine wpList_store_row rfl 102 (.tmp 2) (.tmp 7) rfl w.heap.size #[.int .i64 2, .string ⟨#[116]⟩, .string ⟨#[]⟩, .string ⟨#[]⟩, .int .i64 0, .int .i64 0, .slice (some ⟨gc, 0, none⟩) 1 cp, .bool false, .bool false, .slice none 0 0, .slice none 0 0, .slice none 0 0, .slice none 0 0, .pointer none, .pointer none, .slice none 0 0, .slice none 0 0, .int .i64 0, .int .i64 0] rfl rfl 102 #[.int .i64 0, .string ⟨#[]⟩, .string ⟨#[]⟩, .string ⟨#[]⟩, .int .i64 0, .int .i64 0, .slice none 0 0, .bool false, .bool false, .slice none 0 0, .slice none 0 0, .slice none 0 0, .slice none 0 0, .pointer none, .pointer none, .slice none 0 0, .slice none 0 0, .int .i64 0, .int .i64 0] HR2.out infoSt rfl (by simp [Value.oneCell']) ?_)
  refine bodyPost_ret (ret_stP rfl _ rfl rfl (setRow_heap W2 w.heap.size #[.int .i64 0, .string ⟨#[]⟩, .string ⟨#[]⟩, .string ⟨#[]⟩, .int .i64 0, .int .i64 0, .slice none 0 0, .bool false, .bool false, .slice none 0 0, .slice none 0 0, .slice none 0 0, .slice none 0 0, .pointer none, .pointer none, .slice none 0 0, .slice none 0 0, .int .i64 0, .int .i64 0] #[.int .i64 2, .string ⟨#[116]⟩, .string ⟨#[]⟩, .string ⟨#[]⟩, .int .i64 0, .int .i64 0, .slice (some ⟨gc, 0, none⟩) 1 cp, .bool false, .bool false, .slice none 0 0, .slice none 0 0, .slice none 0 0, .slice none 0 0, .pointer none, .pointer none, .slice none 0 0, .slice none 0 0, .int .i64 0, .int .i64 0] _ _ HR2.out)) rfl ?_
  exact ⟨gc, cp, cur, rfl, by omega, (setRow_other W2 w.heap.size gc #[.int .i64 2, .string ⟨#[116]⟩, .string ⟨#[]⟩, .string ⟨#[]⟩, .int .i64 0, .int .i64 0, .slice (some ⟨gc, 0, none⟩) 1 cp, .bool false, .bool false, .slice none 0 0, .slice none 0 0, .slice none 0 0, .slice none 0 0, .pointer none, .pointer none, .slice none 0 0, .slice none 0 0, .int .i64 0, .int .i64 0] (by omega)).trans HC.out, HT.out, HP2.out.row hpw hgw #[.int .i64 2, .string ⟨#[116]⟩, .string ⟨#[]⟩, .string ⟨#[]⟩, .int .i64 0, .int .i64 0, .slice (some ⟨gc, 0, none⟩) 1 cp, .bool false, .bool false, .slice none 0 0, .slice none 0 0, .slice none 0 0, .slice none 0 0, .pointer none, .pointer none, .slice none 0 0, .slice none 0 0, .int .i64 0, .int .i64 0], HL2.out.row (Nat.le_refl _) #[.int .i64 2, .string ⟨#[116]⟩, .string ⟨#[]⟩, .string ⟨#[]⟩, .int .i64 0, .int .i64 0, .slice (some ⟨gc, 0, none⟩) 1 cp, .bool false, .bool false, .slice none 0 0, .slice none 0 0, .slice none 0 0, .slice none 0 0, .pointer none, .pointer none, .slice none 0 0, .slice none 0 0, .int .i64 0, .int .i64 0]⟩
def CtPost (w : World) (e : Ending) (w' : World) : Prop := ∃ gc cp cur, e = .returned (.tuple #[ctV gc cp, .int .i64 0, .int .i64 0]) ∧ w.heap.size ≤ gc ∧ Blk w' gc cur 175 ∧ cur.toList.take 6 = colL ∧ Below w.heap.size w w'
set_option maxHeartbeats 8000000 in
theorem stmt_ct (w : World) (hG : GlobL w) : Calls Tryz.prog 34 #[.string ⟨ctL.toArray⟩] w (CtPost w) := by
  have HR0 := Lib.hid (Blk.new w #[.int .i64 0, .string ⟨#[]⟩, .string ⟨#[]⟩, .string ⟨#[]⟩, .int .i64 0, .int .i64 0, .slice none 0 0, .bool false, .bool false, .slice none 0 0, .slice none 0 0, .slice none 0 0, .slice none 0 0, .pointer none, .pointer none, .slice none 0 0, .slice none 0 0, .int .i64 0, .int .i64 0] 102 rfl)
  have hx0 : Ext w (w.alloc (.cells #[.int .i64 0, .string ⟨#[]⟩, .string ⟨#[]⟩, .string ⟨#[]⟩, .int .i64 0, .int .i64 0, .slice none 0 0, .bool false, .bool false, .slice none 0 0, .slice none 0 0, .slice none 0 0, .slice none 0 0, .pointer none, .pointer none, .slice none 0 0, .slice none 0 0, .int .i64 0, .int .i64 0] 102)) := (Ext.refl w).alloc _
  have KB := Lib.hid (begin_any ⟨ctL.toArray⟩ ctT lex_ct (by decide) (by decide) _ (hG.keep hx0) (by decide))
  rw [show (⟨ctL.toArray⟩ : ByteArray).size = 22 from rfl] at KB
  have HX0 := Lib.hid hx0
  have KS := Lib.hid (fun p g cap W (hW : PsAt W p g cap 22 ctT (ctS 0)) => statement_ct p g cap W hW)
  have KO := Lib.hid (fun p g cap W (hW : PsAt W p g cap 22 ctT (ctS 7)) => ct_op p g cap 7 ⟨#[59]⟩ false rfl W hW)
  have KE := Lib.hid (fun p g cap W (hW : PsAt W p g cap 22 ctT (ctS 7)) => (end_any p g cap 22 ctT (ctS 7) W hW))
  rw [show endP ctT 22 (ctS 7) = ⟨7, 0, 0, 0⟩ from rfl, show endA ⟨7, 0, 0, 0⟩ = 0 from rfl] at KE
  simp only at KE
  clear hx0 hG
  go_enter Tryz.func34, Tryz.ntmps34
  go_simp
  repeat (first | go_values | go_skip | go_guarded | go_step | go_upon)
  refine Calls.mono KB.out ?_
  rintro e W1 ⟨p, g, cap, rfl, hpw, hgw0, hp1, hb1⟩
  have hwp : w.heap.size ≠ p := by simp at hpw; omega
  have hwl : w.heap.size + 1 ≤ p := by simpa using hpw
  have hgw : g ≠ w.heap.size := by simp at hgw0; omega
  have HP1 := Lib.hid (show PsAt W1 p g cap 22 ctT (ctS 0) from hp1)
  have HR1 := Lib.hid (HR0.out.keep hb1)
  have HX1 := Lib.hid (HX0.out.trans hb1)
  have hpl := hp1.blk.lt
  clear hp1 hb1 HR0 HX0 KB hpw hgw0
  go_simp
  repeat (first | go_values | go_skip | go_guarded | go_step | go_upon)
  refine Calls.mono (KS.out p g cap W1 HP1.out) ?_
  rintro e W2 ⟨gc, cp, cur, rfl, hg2, hc2, ht2, hp2, hl2⟩
  have hgn : w.heap.size + 1 ≤ gc := by omega
  have hgp : gc ≠ p := by omega
  have HP2 := Lib.hid hp2
  have HR2 := Lib.hid (hl2.blk HR1.out hwp)
  have HC2 := Lib.hid hc2
  have HT2 := Lib.hid ht2
  have HL2 := Lib.hid (LeP.below HX1.out hl2 (by omega))
  clear hp2 hl2 hc2 ht2 hg2 HP1 HR1 HX1 KS
  unfold ctV
  go_wp2_with (refine wpList_store_row rfl 102 (.tmp 2) (.tmp 9) rfl w.heap.size #[.int .i64 2, .string ⟨#[116]⟩, .string ⟨#[]⟩, .string ⟨#[]⟩, .int .i64 0, .int .i64 0, .slice (some ⟨gc, 0, none⟩) 1 cp, .bool false, .bool false, .slice none 0 0, .slice none 0 0, .slice none 0 0, .slice none 0 0, .pointer none, .pointer none, .slice none 0 0, .slice none 0 0, .int .i64 0, .int .i64 0] rfl rfl 102 #[.int .i64 0, .string ⟨#[]⟩, .string ⟨#[]⟩, .string ⟨#[]⟩, .int .i64 0, .int .i64 0, .slice none 0 0, .bool false, .bool false, .slice none 0 0, .slice none 0 0, .slice none 0 0, .slice none 0 0, .pointer none, .pointer none, .slice none 0 0, .slice none 0 0, .int .i64 0, .int .i64 0] HR2.out infoSt rfl (by simp [Value.oneCell']) ?_; have HR3 := Lib.hid (show Blk (W2.setRow w.heap.size #[.int .i64 2, .string ⟨#[116]⟩, .string ⟨#[]⟩, .string ⟨#[]⟩, .int .i64 0, .int .i64 0, .slice (some ⟨gc, 0, none⟩) 1 cp, .bool false, .bool false, .slice none 0 0, .slice none 0 0, .slice none 0 0, .slice none 0 0, .pointer none, .pointer none, .slice none 0 0, .slice none 0 0, .int .i64 0, .int .i64 0]) w.heap.size #[.int .i64 2, .string ⟨#[116]⟩, .string ⟨#[]⟩, .string ⟨#[]⟩, .int .i64 0, .int .i64 0, .slice (some ⟨gc, 0, none⟩) 1 cp, .bool false, .bool false, .slice none 0 0, .slice none 0 0, .slice none 0 0, .slice none 0 0, .pointer none, .pointer none, .slice none 0 0, .slice none 0 0, .int .i64 0, .int .i64 0] 102 from setRow_heap W2 w.heap.size #[.int .i64 0, .string ⟨#[]⟩, .string ⟨#[]⟩, .string ⟨#[]⟩, .int .i64 0, .int .i64 0, .slice none 0 0, .bool false, .bool false, .slice none 0 0, .slice none 0 0, .slice none 0 0, .slice none 0 0, .pointer none, .pointer none, .slice none 0 0, .slice none 0 0, .int .i64 0, .int .i64 0] #[.int .i64 2, .string ⟨#[116]⟩, .string ⟨#[]⟩, .string ⟨#[]⟩, .int .i64 0, .int .i64 0, .slice (some ⟨gc, 0, none⟩) 1 cp, .bool false, .bool false, .slice none 0 0, .slice none 0 0, .slice none 0 0, .slice none 0 0, .pointer none, .pointer none, .slice none 0 0, .slice none 0 0, .int .i64 0, .int .i64 0] _ _ HR2.out); have HP3 := Lib.hid (HP2.out.row (Ne.symm hwp) hgw #[.int .i64 2, .string ⟨#[116]⟩, .string ⟨#[]⟩, .string ⟨#[]⟩, .int .i64 0, .int .i64 0, .slice (some ⟨gc, 0, none⟩) 1 cp, .bool false, .bool false, .slice none 0 0, .slice none 0 0, .slice none 0 0, .slice none 0 0, .pointer none, .pointer none, .slice none 0 0, .slice none 0 0, .int .i64 0, .int .i64 0]); have HC3 := Lib.hid (show Blk (W2.setRow w.heap.size #[.int .i64 2, .string ⟨#[116]⟩, .string ⟨#[]⟩, .string ⟨#[]⟩, .int .i64 0, .int .i64 0, .slice (some ⟨gc, 0, none⟩) 1 cp, .bool false, .bool false, .slice none 0 0, .slice none 0 0, .slice none 0 0, .slice none 0 0, .pointer none, .pointer none, .slice none 0 0, .slice none 0 0, .int .i64 0, .int .i64 0]) gc cur 175 from (setRow_other W2 w.heap.size gc #[.int .i64 2, .string ⟨#[116]⟩, .string ⟨#[]⟩, .string ⟨#[]⟩, .int .i64 0, .int .i64 0, .slice (some ⟨gc, 0, none⟩) 1 cp, .bool false, .bool false, .slice none 0 0, .slice none 0 0, .slice none 0 0, .slice none 0 0, .pointer none, .pointer none, .slice none 0 0, .slice none 0 0, .int .i64 0, .int .i64 0] (by omega)).trans HC2.out); have HL3 := Lib.hid (below_row HL2.out (Nat.le_refl _) #[.int .i64 2, .string ⟨#[116]⟩, .string ⟨#[]⟩, .string ⟨#[]⟩, .int .i64 0, .int .i64 0, .slice (some ⟨gc, 0, none⟩) 1 cp, .bool false, .bool false, .slice none 0 0, .slice none 0 0, .slice none 0 0, .slice none 0 0, .pointer none, .pointer none, .slice none 0 0, .slice none 0 0, .int .i64 0, .int .i64 0]); generalize W2.setRow w.heap.size #[.int .i64 2, .string ⟨#[116]⟩, .string ⟨#[]⟩, .string ⟨#[]⟩, .int .i64 0, .int .i64 0, .slice (some ⟨gc, 0, none⟩) 1 cp, .bool false, .bool false, .slice none 0 0, .slice none 0 0, .slice none 0 0, .slice none 0 0, .pointer none, .pointer none, .slice none 0 0, .slice none 0 0, .int .i64 0, .int .i64 0] = W3 at HR3 HP3 HC3 HL3 ⊢; clear HR2 HP2 HL2 HC2)
  refine Calls.mono (KO.out p g cap W3 HP3.out) ?_
  rintro e W4 ⟨rfl, hp4, hl4⟩
  have HP4 := Lib.hid (show PsAt W4 p g cap 22 ctT (ctS 7) from hp4)
  have HR4 := Lib.hid (hl4.blk HR3.out hwp)
  have HC4 := Lib.hid (hl4.blk HC3.out hgp)
  have HL4 := Lib.hid (LeP.below HL3.out hl4 (by omega))
  clear hp4 hl4 HP3 HR3 HL3 HC3 KO
  go_simp
  repeat (first | go_values | go_skip | go_guarded | go_step | go_upon)
  refine Calls.mono (KE.out p g cap W4 HP4.out) ?_
  rintro e W5 ⟨rfl, hl5⟩
  have HR5 := Lib.hid (hl5.blk HR4.out hwp)
  have HC5 := Lib.hid (hl5.blk HC4.out hgp)
  have HL5 := Lib.hid (LeP.below HL4.out hl5 (by omega))
  clear hl5 HP4 HR4 HL4 HC4 KE
  have HR6 := Lib.hid (setRow_heap W5 w.heap.size #[.int .i64 2, .string ⟨#[116]⟩, .string ⟨#[]⟩, .string ⟨#[]⟩, .int .i64 0, .int .i64 0, .slice (some ⟨gc, 0, none⟩) 1 cp, .bool false, .bool false, .slice none 0 0, .slice none 0 0, .slice none 0 0, .slice none 0 0, .pointer none, .pointer none, .slice none 0 0, .slice none 0 0, .int .i64 0, .int .i64 0] #[.int .i64 2, .string ⟨#[116]⟩, .string ⟨#[]⟩, .string ⟨#[]⟩, .int .i64 0, .int .i64 0, .slice (some ⟨gc, 0, none⟩) 1 cp, .bool false, .bool false, .slice none 0 0, .slice none 0 0, .slice none 0 0, .slice none 0 0, .pointer none, .pointer none, .slice none 0 0, .slice none 0 0, .int .i64 0, .int .i64 0] _ _ HR5.out)
  have HC6 := Lib.hid (show Blk (W5.setRow w.heap.size #[.int .i64 2, .string ⟨#[116]⟩, .string ⟨#[]⟩, .string ⟨#[]⟩, .int .i64 0, .int .i64 0, .slice (some ⟨gc, 0, none⟩) 1 cp, .bool false, .bool false, .slice none 0 0, .slice none 0 0, .slice none 0 0, .slice none 0 0, .pointer none, .pointer none, .slice none 0 0, .slice none 0 0, .int .i64 0, .int .i64 0]) gc cur 175 from (setRow_other W5 w.heap.size gc #[.int .i64 2, .string ⟨#[116]⟩, .string ⟨#[]⟩, .string ⟨#[]⟩, .int .i64 0, .int .i64 0, .slice (some ⟨gc, 0, none⟩) 1 cp, .bool false, .bool false, .slice none 0 0, .slice none 0 0, .slice none 0 0, .slice none 0 0, .pointer none, .pointer none, .slice none 0 0, .slice none 0 0, .int .i64 0, .int .i64 0] (by omega)).trans HC5.out)
  have HL6 := Lib.hid (below_row HL5.out (Nat.le_refl _) #[.int .i64 2, .string ⟨#[116]⟩, .string ⟨#[]⟩, .string ⟨#[]⟩, .int .i64 0, .int .i64 0, .slice (some ⟨gc, 0, none⟩) 1 cp, .bool false, .bool false, .slice none 0 0, .slice none 0 0, .slice none 0 0, .slice none 0 0, .pointer none, .pointer none, .slice none 0 0, .slice none 0 0, .int .i64 0, .int .i64 0])
  go_wp2_with (first
    | refine wpList_load_row rfl 102 (.tmp 2) rfl w.heap.size rfl 102 #[.int .i64 2, .string ⟨#[116]⟩, .string ⟨#[]⟩, .string ⟨#[]⟩, .int .i64 0, .int .i64 0, .slice (some ⟨gc, 0, none⟩) 1 cp, .bool false, .bool false, .slice none 0 0, .slice none 0 0, .slice none 0 0, .slice none 0 0, .pointer none, .pointer none, .slice none 0 0, .slice none 0 0, .int .i64 0, .int .i64 0] (0, 0) _ HR5.out Tryz.underlying102 rfl (by kernel_rfl) ?_
    | (refine wpList_store_row rfl 102 (.tmp 2) (.tmp 22) rfl w.heap.size #[.int .i64 2, .string ⟨#[116]⟩, .string ⟨#[]⟩, .string ⟨#[]⟩, .int .i64 0, .int .i64 0, .slice (some ⟨gc, 0, none⟩) 1 cp, .bool false, .bool false, .slice none 0 0, .slice none 0 0, .slice none 0 0, .slice none 0 0, .pointer none, .pointer none, .slice none 0 0, .slice none 0 0, .int .i64 0, .int .i64 0] rfl rfl 102 #[.int .i64 2, .string ⟨#[116]⟩, .string ⟨#[]⟩, .string ⟨#[]⟩, .int .i64 0, .int .i64 0, .slice (some ⟨gc, 0, none⟩) 1 cp, .bool false, .bool false, .slice none 0 0, .slice none 0 0, .slice none 0 0, .slice none 0 0, .pointer none, .pointer none, .slice none 0 0, .slice none 0 0, .int .i64 0, .int .i64 0] HR5.out infoSt rfl (by simp [Value.oneCell']) ?_; generalize W5.setRow w.heap.size #[.int .i64 2, .string ⟨#[116]⟩, .string ⟨#[]⟩, .string ⟨#[]⟩, .int .i64 0, .int .i64 0, .slice (some ⟨gc, 0, none⟩) 1 cp, .bool false, .bool false, .slice none 0 0, .slice none 0 0, .slice none 0 0, .slice none 0 0, .pointer none, .pointer none, .slice none 0 0, .slice none 0 0, .int .i64 0, .int .i64 0] = W6 at HR6 HC6 HL6 ⊢; clear HR5 HC5 HL5)
    | (refine bodyPost_ret (ret_stP3 rfl _ rfl rfl HR6.out) rfl ?_))
  exact ⟨gc, cp, cur, rfl, by omega, HC6.out, HT2.out, HL6.out⟩
end Go.Proofs.YtchpbdodlbghaaaGreatDoor
