import Derived.Test.YtchpbdodlbghaaaGreatDoorPsrR
import Derived.Test.YtchpbdodlbghaaaGreatDoorScrD
namespace Go.Proofs.YtchpbdodlbghaaaGreatDoor
open Go.RowKit Go.Lib
set_option maxRecDepth 100000

def PP (p g cap long : Nat) (T : List Lx.Tok) (s : PSt) (v : Value) (w : World) (e : Ending) (w' : World) : Prop := e = .returned v ∧ PsAt w' p g cap long T s ∧ LeP p w w'
theorem LeP.cell {p : Nat} {w0 w : World} (h : LeP p w0 w) {g : Nat} (hg : w0.heap.size ≤ g) (o : Nat) (v : Value) : LeP p w0 (w.setCell ⟨g, o, none⟩ v) :=
  ⟨h.os, h.tape, h.out, by simpa using h.size, fun i hi hn => (heap_setCell_other w ⟨g, o, none⟩ i v (by show i ≠ g; omega)).trans (h.old i hi hn)⟩
section
variable (p g cap long : Nat) (T : List Lx.Tok) (i d : Nat) (a : Int)
theorem isB_err (k : Int) (x : List UInt8) : isB T ⟨i, d, a, 10⟩ k x = false := rfl
theorem word_err (x : ByteArray) (w : World) (h : PsAt w p g cap long T ⟨i, d, a, 10⟩) : Calls Tryz.prog 71 #[.pointer (some ⟨p, 0, none⟩), .string x] w (PP p g cap long T ⟨i, d, a, 10⟩ (.bool false) w) := by
  have := pword_any p g cap long T ⟨i, d, a, 10⟩ x w h
  rw [isB_err] at this
  exact this
theorem op_err (x : ByteArray) (w : World) (h : PsAt w p g cap long T ⟨i, d, a, 10⟩) : Calls Tryz.prog 49 #[.pointer (some ⟨p, 0, none⟩), .string x] w (PP p g cap long T ⟨i, d, a, 10⟩ (.bool false) w) := by
  have := pop_any p g cap long T ⟨i, d, a, 10⟩ x w h
  rw [isB_err] at this
  exact this
theorem want_err (x : ByteArray) (b : Nat) (w : World) (h : PsAt w p g cap long T ⟨i, d, a, 10⟩) (hb : Blk w b #[.string x] 9) : Calls Tryz.prog 77 #[.pointer (some ⟨p, 0, none⟩), .slice (some ⟨b, 0, none⟩) 1 1] w (PP p g cap long T ⟨i, d, a, 10⟩ (.tuple #[]) w) := by
  have := want_any p g cap long T ⟨i, d, a, 10⟩ x b w h hb
  unfold wantW at this
  rw [isB_err, if_neg (by decide)] at this
  exact this

set_option maxHeartbeats 1000000 in
theorem perhaps_err (x : ByteArray) (w : World) (h : PsAt w p g cap long T ⟨i, d, a, 10⟩) : Calls Tryz.prog 129 #[.pointer (some ⟨p, 0, none⟩), .string x] w (PP p g cap long T ⟨i, d, a, 10⟩ (.pointer none) w) := by
  have KW := Lib.hid (word_err p g cap long T i d a x w h)
  clear h
  go_enter Tryz.func129, Tryz.ntmps129
  go_simp
  repeat (first | go_values | go_skip | go_guarded | go_step | go_upon)
  refine Calls.mono KW.out ?_
  rintro e W1 ⟨rfl, hp, hl⟩
  go_simp
  repeat (first | go_values | go_skip | go_guarded | go_step | go_upon)
  go_returns
  exact ⟨rfl, hp, hl⟩
set_option maxHeartbeats 1000000 in
theorem bound_err (x : ByteArray) (w : World) (h : PsAt w p g cap long T ⟨i, d, a, 10⟩) : Calls Tryz.prog 133 #[.pointer (some ⟨p, 0, none⟩), .string x] w (PP p g cap long T ⟨i, d, a, 10⟩ (.int .i64 (-1)) w) := by
  have KW := Lib.hid (word_err p g cap long T i d a x w h)
  clear h
  go_enter Tryz.func133, Tryz.ntmps133
  go_simp
  repeat (first | go_values | go_skip | go_guarded | go_step | go_upon)
  refine Calls.mono KW.out ?_
  rintro e W1 ⟨rfl, hp, hl⟩
  go_simp
  repeat (first | go_values | go_skip | go_guarded | go_step | go_upon)
  go_returns
  exact ⟨rfl, hp, hl⟩
set_option maxHeartbeats 1000000 in
theorem items_err (w : World) (h : PsAt w p g cap long T ⟨i, d, a, 10⟩) : Calls Tryz.prog 130 #[.pointer (some ⟨p, 0, none⟩)] w (PP p g cap long T ⟨i, d, a, 10⟩ (.slice none 0 0) w) := by
  have HP := Lib.hid h
  have hb := h.blk
  unfold psC at hb
  simp only at hb
  obtain ⟨cb, fb⟩ := hb.facts
  have hbl := hb.lt
  clear h hb
  go_enter Tryz.func130, Tryz.ntmps130
  go_simp
  repeat (first | go_values | go_skip | go_guarded | go_step | go_upon)
  refine wp_loop_rounds 1 ?_
  rw [rounds_succ]
  go_simp
  repeat (first | go_values | go_skip | go_guarded | go_step | go_upon)
  go_returns
  exact ⟨rfl, HP.out, LeP.refl p w⟩
set_option maxHeartbeats 1000000 in
theorem sources_err (w : World) (h : PsAt w p g cap long T ⟨i, d, a, 10⟩) : Calls Tryz.prog 131 #[.pointer (some ⟨p, 0, none⟩)] w (PP p g cap long T ⟨i, d, a, 10⟩ (.slice none 0 0) w) := by
  have HP := Lib.hid h
  have hb := h.blk
  unfold psC at hb
  simp only at hb
  obtain ⟨cb, fb⟩ := hb.facts
  have hbl := hb.lt
  clear h hb
  go_enter Tryz.func131, Tryz.ntmps131
  go_simp
  repeat (first | go_values | go_skip | go_guarded | go_step | go_upon)
  refine wp_loop_rounds 1 ?_
  rw [rounds_succ]
  go_simp
  repeat (first | go_values | go_skip | go_guarded | go_step | go_upon)
  go_returns
  exact ⟨rfl, HP.out, LeP.refl p w⟩
set_option maxHeartbeats 8000000 in
theorem query_err (w : World) (h : PsAt w p g cap long T ⟨i, d, a, 10⟩) : Calls Tryz.prog 78 #[.pointer (some ⟨p, 0, none⟩)] w (PP p g cap long T ⟨i, d, a, 10⟩ (.agg #[.int .i64 9, .string ⟨#[]⟩, .string ⟨#[]⟩, .string ⟨#[]⟩, .int .i64 0, .int .i64 0, .slice none 0 0, .bool false, .bool false, .slice none 0 0, .slice none 0 0, .slice none 0 0, .slice none 0 0, .pointer none, .pointer none, .slice none 0 0, .slice none 0 0, .int .i64 (-1), .int .i64 (-1)]) w) := by
  have hpl : p < w.heap.size := h.blk.lt
  have hgl : g < w.heap.size := h.tok.1
  have hpw : p ≠ w.heap.size := by omega
  have hgw : g ≠ w.heap.size := by omega
  have hwp : w.heap.size ≠ p := Ne.symm hpw
  have hge : w.heap.size ≤ w.heap.size := by omega
  have HR0 := Lib.hid (Blk.new w #[.int .i64 0, .string ⟨#[]⟩, .string ⟨#[]⟩, .string ⟨#[]⟩, .int .i64 0, .int .i64 0, .slice none 0 0, .bool false, .bool false, .slice none 0 0, .slice none 0 0, .slice none 0 0, .slice none 0 0, .pointer none, .pointer none, .slice none 0 0, .slice none 0 0, .int .i64 0, .int .i64 0] 102 rfl)
  have hx0 : Ext w (w.alloc (.cells #[.int .i64 0, .string ⟨#[]⟩, .string ⟨#[]⟩, .string ⟨#[]⟩, .int .i64 0, .int .i64 0, .slice none 0 0, .bool false, .bool false, .slice none 0 0, .slice none 0 0, .slice none 0 0, .slice none 0 0, .pointer none, .pointer none, .slice none 0 0, .slice none 0 0, .int .i64 0, .int .i64 0] 102)) := (Ext.refl w).alloc _
  have HP0 := Lib.hid (h.ext hx0)
  have HL0 := Lib.hid (LeP.ofExt (p := p) hx0)
  clear h hx0
  have KWd := Lib.hid (fun x W hW => word_err p g cap long T i d a x W hW)
  have KWt := Lib.hid (fun x b W hW hb => want_err p g cap long T i d a x b W hW hb)
  have KPh := Lib.hid (fun x W hW => perhaps_err p g cap long T i d a x W hW)
  have KBd := Lib.hid (fun x W hW => bound_err p g cap long T i d a x W hW)
  have KIt := Lib.hid (fun W hW => items_err p g cap long T i d a W hW)
  have KSo := Lib.hid (fun W hW => sources_err p g cap long T i d a W hW)
  generalize (⟨i, d, a, 10⟩ : PSt) = s at HP0 KWd KWt KPh KBd KIt KSo ⊢
  go_enter Tryz.func78, Tryz.ntmps78
  go_simp
  repeat (first | go_values | go_skip | go_guarded | go_step | go_upon)
  refine Calls.mono (KWd.out ⟨#[68, 73, 83, 84, 73, 78, 67, 84]⟩ _ HP0.out) ?_
  rintro e W1 ⟨rfl, hp, hl⟩
  have HP1 := Lib.hid hp
  have HR1 := Lib.hid (hl.blk HR0.out hwp)
  have HL1 := Lib.hid (HL0.out.trans hl)
  clear hp hl HP0 HR0 HL0 
  have hsz1 := HL1.out.size
  have hrl := HR1.out.lt
  have hps : p ≠ W1.heap.size := by omega
  have hsp : W1.heap.size ≠ p := Ne.symm hps
  have hgs : g ≠ W1.heap.size := by omega
  have hrs : w.heap.size ≠ W1.heap.size := by omega
  have hsw : w.heap.size ≤ W1.heap.size := by omega
  have hxa : Ext W1 (W1.alloc (.cells #[.int .i64 0, .string ⟨#[]⟩, .string ⟨#[]⟩, .string ⟨#[]⟩, .int .i64 0, .int .i64 0, .slice none 0 0, .bool false, .bool false, .slice none 0 0, .slice none 0 0, .slice none 0 0, .slice none 0 0, .pointer none, .pointer none, .slice none 0 0, .slice none 0 0, .int .i64 0, .int .i64 0] 102)) := (Ext.refl W1).alloc _
  have HSa := Lib.hid (Blk.new W1 #[.int .i64 0, .string ⟨#[]⟩, .string ⟨#[]⟩, .string ⟨#[]⟩, .int .i64 0, .int .i64 0, .slice none 0 0, .bool false, .bool false, .slice none 0 0, .slice none 0 0, .slice none 0 0, .slice none 0 0, .pointer none, .pointer none, .slice none 0 0, .slice none 0 0, .int .i64 0, .int .i64 0] 102 rfl)
  have HPa := Lib.hid (HP1.out.ext hxa)
  have HRa := Lib.hid (HR1.out.keep hxa)
  have HLa := Lib.hid (HL1.out.trans (LeP.ofExt hxa))
  go_upto_region 2 with (generalize W1.alloc (.cells #[.int .i64 0, .string ⟨#[]⟩, .string ⟨#[]⟩, .string ⟨#[]⟩, .int .i64 0, .int .i64 0, .slice none 0 0, .bool false, .bool false, .slice none 0 0, .slice none 0 0, .slice none 0 0, .slice none 0 0, .pointer none, .pointer none, .slice none 0 0, .slice none 0 0, .int .i64 0, .int .i64 0] 102) = Wa at HSa HPa HRa HLa ⊢; refine wpList_store_row rfl 102 (.tmp 3) (.tmp 7) rfl W1.heap.size #[.int .i64 9, .string ⟨#[]⟩, .string ⟨#[]⟩, .string ⟨#[]⟩, .int .i64 0, .int .i64 0, .slice none 0 0, .bool false, .bool false, .slice none 0 0, .slice none 0 0, .slice none 0 0, .slice none 0 0, .pointer none, .pointer none, .slice none 0 0, .slice none 0 0, .int .i64 (-1), .int .i64 (-1)] rfl rfl 102 #[.int .i64 0, .string ⟨#[]⟩, .string ⟨#[]⟩, .string ⟨#[]⟩, .int .i64 0, .int .i64 0, .slice none 0 0, .bool false, .bool false, .slice none 0 0, .slice none 0 0, .slice none 0 0, .slice none 0 0, .pointer none, .pointer none, .slice none 0 0, .slice none 0 0, .int .i64 0, .int .i64 0] HSa.out infoSt rfl (by simp [Value.oneCell']) ?_)
  have HS2 := Lib.hid (show Blk (Wa.setRow W1.heap.size #[.int .i64 9, .string ⟨#[]⟩, .string ⟨#[]⟩, .string ⟨#[]⟩, .int .i64 0, .int .i64 0, .slice none 0 0, .bool false, .bool false, .slice none 0 0, .slice none 0 0, .slice none 0 0, .slice none 0 0, .pointer none, .pointer none, .slice none 0 0, .slice none 0 0, .int .i64 (-1), .int .i64 (-1)]) W1.heap.size #[.int .i64 9, .string ⟨#[]⟩, .string ⟨#[]⟩, .string ⟨#[]⟩, .int .i64 0, .int .i64 0, .slice none 0 0, .bool false, .bool false, .slice none 0 0, .slice none 0 0, .slice none 0 0, .slice none 0 0, .pointer none, .pointer none, .slice none 0 0, .slice none 0 0, .int .i64 (-1), .int .i64 (-1)] 102 from setRow_heap Wa W1.heap.size #[.int .i64 0, .string ⟨#[]⟩, .string ⟨#[]⟩, .string ⟨#[]⟩, .int .i64 0, .int .i64 0, .slice none 0 0, .bool false, .bool false, .slice none 0 0, .slice none 0 0, .slice none 0 0, .slice none 0 0, .pointer none, .pointer none, .slice none 0 0, .slice none 0 0, .int .i64 0, .int .i64 0] #[.int .i64 9, .string ⟨#[]⟩, .string ⟨#[]⟩, .string ⟨#[]⟩, .int .i64 0, .int .i64 0, .slice none 0 0, .bool false, .bool false, .slice none 0 0, .slice none 0 0, .slice none 0 0, .slice none 0 0, .pointer none, .pointer none, .slice none 0 0, .slice none 0 0, .int .i64 (-1), .int .i64 (-1)] _ _ HSa.out)
  have HP2 := Lib.hid (HPa.out.row hps hgs #[.int .i64 9, .string ⟨#[]⟩, .string ⟨#[]⟩, .string ⟨#[]⟩, .int .i64 0, .int .i64 0, .slice none 0 0, .bool false, .bool false, .slice none 0 0, .slice none 0 0, .slice none 0 0, .slice none 0 0, .pointer none, .pointer none, .slice none 0 0, .slice none 0 0, .int .i64 (-1), .int .i64 (-1)])
  have HR2 := Lib.hid (show Blk (Wa.setRow W1.heap.size #[.int .i64 9, .string ⟨#[]⟩, .string ⟨#[]⟩, .string ⟨#[]⟩, .int .i64 0, .int .i64 0, .slice none 0 0, .bool false, .bool false, .slice none 0 0, .slice none 0 0, .slice none 0 0, .slice none 0 0, .pointer none, .pointer none, .slice none 0 0, .slice none 0 0, .int .i64 (-1), .int .i64 (-1)]) w.heap.size #[.int .i64 0, .string ⟨#[]⟩, .string ⟨#[]⟩, .string ⟨#[]⟩, .int .i64 0, .int .i64 0, .slice none 0 0, .bool false, .bool false, .slice none 0 0, .slice none 0 0, .slice none 0 0, .slice none 0 0, .pointer none, .pointer none, .slice none 0 0, .slice none 0 0, .int .i64 0, .int .i64 0] 102 from (setRow_other Wa W1.heap.size w.heap.size #[.int .i64 9, .string ⟨#[]⟩, .string ⟨#[]⟩, .string ⟨#[]⟩, .int .i64 0, .int .i64 0, .slice none 0 0, .bool false, .bool false, .slice none 0 0, .slice none 0 0, .slice none 0 0, .slice none 0 0, .pointer none, .pointer none, .slice none 0 0, .slice none 0 0, .int .i64 (-1), .int .i64 (-1)] hrs).trans HRa.out)
  have HL2 := Lib.hid (HLa.out.row hsw #[.int .i64 9, .string ⟨#[]⟩, .string ⟨#[]⟩, .string ⟨#[]⟩, .int .i64 0, .int .i64 0, .slice none 0 0, .bool false, .bool false, .slice none 0 0, .slice none 0 0, .slice none 0 0, .slice none 0 0, .pointer none, .pointer none, .slice none 0 0, .slice none 0 0, .int .i64 (-1), .int .i64 (-1)])
  generalize Wa.setRow W1.heap.size #[.int .i64 9, .string ⟨#[]⟩, .string ⟨#[]⟩, .string ⟨#[]⟩, .int .i64 0, .int .i64 0, .slice none 0 0, .bool false, .bool false, .slice none 0 0, .slice none 0 0, .slice none 0 0, .slice none 0 0, .pointer none, .pointer none, .slice none 0 0, .slice none 0 0, .int .i64 (-1), .int .i64 (-1)] = W2 at HS2 HP2 HR2 HL2 ⊢
  clear HP1 HR1 HL1 HSa HPa HRa HLa hxa
  obtain ⟨cs, fs⟩ := HS2.out.facts
  have hsl2 := HS2.out.lt
  go_simp
  repeat (first | go_values | go_skip | go_guarded | go_step | go_upon)
  refine Calls.mono (KWd.out ⟨#[65, 76, 76]⟩ W2 HP2.out) ?_
  rintro e W3 ⟨rfl, hp, hl⟩
  have HP3 := Lib.hid hp
  have HR3 := Lib.hid (hl.blk HR2.out hwp)
  have HS3 := Lib.hid (hl.blk HS2.out hsp)
  have HL3 := Lib.hid (HL2.out.trans hl)
  clear hp hl HP2 HR2 HL2 HS2 cs fs
  obtain ⟨cs, fs⟩ := HS3.out.facts
  have hsl3 := HS3.out.lt
  go_simp
  repeat (first | go_values | go_skip | go_guarded | go_step | go_upon)
  refine Calls.mono (KIt.out W3 HP3.out) ?_
  rintro e W4 ⟨rfl, hp, hl⟩
  have HP4 := Lib.hid hp
  have HR4 := Lib.hid (hl.blk HR3.out hwp)
  have HS4 := Lib.hid (hl.blk HS3.out hsp)
  have HL4 := Lib.hid (HL3.out.trans hl)
  clear hp hl HP3 HR3 HL3 HS3 cs fs
  obtain ⟨cs, fs⟩ := HS4.out.facts
  have hsl4 := HS4.out.lt
  go_simp
  go_upto_region 5 with (fail)
  have HP5 := Lib.hid (HP4.out.other hps hgs 11 (.slice none 0 0))
  have HR5 := Lib.hid (HR4.out.other (a := ⟨W1.heap.size, 11, none⟩) hrs (.slice none 0 0))
  have HS5 := Lib.hid (show Blk (W4.setCell ⟨W1.heap.size, 11, none⟩ (.slice none 0 0)) W1.heap.size #[.int .i64 9, .string ⟨#[]⟩, .string ⟨#[]⟩, .string ⟨#[]⟩, .int .i64 0, .int .i64 0, .slice none 0 0, .bool false, .bool false, .slice none 0 0, .slice none 0 0, .slice none 0 0, .slice none 0 0, .pointer none, .pointer none, .slice none 0 0, .slice none 0 0, .int .i64 (-1), .int .i64 (-1)] 102 from HS4.out.set 11 (.slice none 0 0))
  have HL5 := Lib.hid (HL4.out.cell hsw 11 (.slice none 0 0))
  generalize W4.setCell ⟨W1.heap.size, 11, none⟩ (.slice none 0 0) = W5 at HP5 HR5 HS5 HL5 ⊢
  clear HP4 HR4 HS4 HL4 cs fs
  obtain ⟨cs, fs⟩ := HS5.out.facts
  have hsl5 := HS5.out.lt
  have hxb : Ext W5 (W5.alloc (.cells #[.string ⟨#[70, 82, 79, 77]⟩] 9)) := (Ext.refl W5).alloc _
  have HBw := Lib.hid (Blk.new W5 #[.string ⟨#[70, 82, 79, 77]⟩] 9 rfl)
  have HP6 := Lib.hid (HP5.out.ext hxb)
  have HR6 := Lib.hid (HR5.out.keep hxb)
  have HS6 := Lib.hid (HS5.out.keep hxb)
  have HL6 := Lib.hid (HL5.out.trans (LeP.ofExt hxb))
  clear hxb HP5 HR5 HS5 HL5
  go_simp
  repeat (first | go_values | go_skip | go_guarded | go_step | go_upon)
  refine Calls.mono (KWt.out ⟨#[70, 82, 79, 77]⟩ _ _ HP6.out HBw.out) ?_
  rintro e W7 ⟨rfl, hp, hl⟩
  have HP7 := Lib.hid hp
  have HR7 := Lib.hid (hl.blk HR6.out hwp)
  have HS7 := Lib.hid (hl.blk HS6.out hsp)
  have HL7 := Lib.hid (HL6.out.trans hl)
  clear hp hl HP6 HR6 HL6 HS6 cs fs
  obtain ⟨cs, fs⟩ := HS7.out.facts
  have hsl7 := HS7.out.lt
  clear HBw
  go_simp
  go_upto_region 6 with (fail)
  go_simp
  repeat (first | go_values | go_skip | go_guarded | go_step | go_upon)
  refine Calls.mono (KSo.out W7 HP7.out) ?_
  rintro e W8 ⟨rfl, hp, hl⟩
  have HP8 := Lib.hid hp
  have HR8 := Lib.hid (hl.blk HR7.out hwp)
  have HS8 := Lib.hid (hl.blk HS7.out hsp)
  have HL8 := Lib.hid (HL7.out.trans hl)
  clear hp hl HP7 HR7 HL7 HS7 cs fs
  obtain ⟨cs, fs⟩ := HS8.out.facts
  have hsl8 := HS8.out.lt
  go_simp
  go_upto_region 7 with (fail)
  have HP9 := Lib.hid (HP8.out.other hps hgs 12 (.slice none 0 0))
  have HR9 := Lib.hid (HR8.out.other (a := ⟨W1.heap.size, 12, none⟩) hrs (.slice none 0 0))
  have HS9 := Lib.hid (show Blk (W8.setCell ⟨W1.heap.size, 12, none⟩ (.slice none 0 0)) W1.heap.size #[.int .i64 9, .string ⟨#[]⟩, .string ⟨#[]⟩, .string ⟨#[]⟩, .int .i64 0, .int .i64 0, .slice none 0 0, .bool false, .bool false, .slice none 0 0, .slice none 0 0, .slice none 0 0, .slice none 0 0, .pointer none, .pointer none, .slice none 0 0, .slice none 0 0, .int .i64 (-1), .int .i64 (-1)] 102 from HS8.out.set 12 (.slice none 0 0))
  have HL9 := Lib.hid (HL8.out.cell hsw 12 (.slice none 0 0))
  generalize W8.setCell ⟨W1.heap.size, 12, none⟩ (.slice none 0 0) = W9 at HP9 HR9 HS9 HL9 ⊢
  clear HP8 HR8 HS8 HL8 cs fs
  obtain ⟨cs, fs⟩ := HS9.out.facts
  have hsl9 := HS9.out.lt
  go_simp
  repeat (first | go_values | go_skip | go_guarded | go_step | go_upon)
  refine Calls.mono (KPh.out ⟨#[87, 72, 69, 82, 69]⟩ W9 HP9.out) ?_
  rintro e W10 ⟨rfl, hp, hl⟩
  have HP10 := Lib.hid hp
  have HR10 := Lib.hid (hl.blk HR9.out hwp)
  have HS10 := Lib.hid (hl.blk HS9.out hsp)
  have HL10 := Lib.hid (HL9.out.trans hl)
  clear hp hl HP9 HR9 HL9 HS9 cs fs
  obtain ⟨cs, fs⟩ := HS10.out.facts
  have hsl10 := HS10.out.lt
  go_simp
  go_upto_region 8 with (fail)
  have HP11 := Lib.hid (HP10.out.other hps hgs 13 (.pointer none))
  have HR11 := Lib.hid (HR10.out.other (a := ⟨W1.heap.size, 13, none⟩) hrs (.pointer none))
  have HS11 := Lib.hid (show Blk (W10.setCell ⟨W1.heap.size, 13, none⟩ (.pointer none)) W1.heap.size #[.int .i64 9, .string ⟨#[]⟩, .string ⟨#[]⟩, .string ⟨#[]⟩, .int .i64 0, .int .i64 0, .slice none 0 0, .bool false, .bool false, .slice none 0 0, .slice none 0 0, .slice none 0 0, .slice none 0 0, .pointer none, .pointer none, .slice none 0 0, .slice none 0 0, .int .i64 (-1), .int .i64 (-1)] 102 from HS10.out.set 13 (.pointer none))
  have HL11 := Lib.hid (HL10.out.cell hsw 13 (.pointer none))
  generalize W10.setCell ⟨W1.heap.size, 13, none⟩ (.pointer none) = W11 at HP11 HR11 HS11 HL11 ⊢
  clear HP10 HR10 HS10 HL10 cs fs
  obtain ⟨cs, fs⟩ := HS11.out.facts
  have hsl11 := HS11.out.lt
  go_simp
  repeat (first | go_values | go_skip | go_guarded | go_step | go_upon)
  refine Calls.mono (KWd.out ⟨#[71, 82, 79, 85, 80]⟩ W11 HP11.out) ?_
  rintro e W12 ⟨rfl, hp, hl⟩
  have HP12 := Lib.hid hp
  have HR12 := Lib.hid (hl.blk HR11.out hwp)
  have HS12 := Lib.hid (hl.blk HS11.out hsp)
  have HL12 := Lib.hid (HL11.out.trans hl)
  clear hp hl HP11 HR11 HL11 HS11 cs fs
  obtain ⟨cs, fs⟩ := HS12.out.facts
  have hsl12 := HS12.out.lt
  go_simp
  repeat (first | go_values | go_skip | go_guarded | go_step | go_upon)
  refine Calls.mono (KPh.out ⟨#[72, 65, 86, 73, 78, 71]⟩ W12 HP12.out) ?_
  rintro e W13 ⟨rfl, hp, hl⟩
  have HP13 := Lib.hid hp
  have HR13 := Lib.hid (hl.blk HR12.out hwp)
  have HS13 := Lib.hid (hl.blk HS12.out hsp)
  have HL13 := Lib.hid (HL12.out.trans hl)
  clear hp hl HP12 HR12 HL12 HS12 cs fs
  obtain ⟨cs, fs⟩ := HS13.out.facts
  have hsl13 := HS13.out.lt
  go_simp
  go_upto_region 12 with (fail)
  have HP14 := Lib.hid (HP13.out.other hps hgs 14 (.pointer none))
  have HR14 := Lib.hid (HR13.out.other (a := ⟨W1.heap.size, 14, none⟩) hrs (.pointer none))
  have HS14 := Lib.hid (show Blk (W13.setCell ⟨W1.heap.size, 14, none⟩ (.pointer none)) W1.heap.size #[.int .i64 9, .string ⟨#[]⟩, .string ⟨#[]⟩, .string ⟨#[]⟩, .int .i64 0, .int .i64 0, .slice none 0 0, .bool false, .bool false, .slice none 0 0, .slice none 0 0, .slice none 0 0, .slice none 0 0, .pointer none, .pointer none, .slice none 0 0, .slice none 0 0, .int .i64 (-1), .int .i64 (-1)] 102 from HS13.out.set 14 (.pointer none))
  have HL14 := Lib.hid (HL13.out.cell hsw 14 (.pointer none))
  generalize W13.setCell ⟨W1.heap.size, 14, none⟩ (.pointer none) = W14 at HP14 HR14 HS14 HL14 ⊢
  clear HP13 HR13 HS13 HL13 cs fs
  obtain ⟨cs, fs⟩ := HS14.out.facts
  have hsl14 := HS14.out.lt
  go_simp
  repeat (first | go_values | go_skip | go_guarded | go_step | go_upon)
  refine Calls.mono (KWd.out ⟨#[79, 82, 68, 69, 82]⟩ W14 HP14.out) ?_
  rintro e W15 ⟨rfl, hp, hl⟩
  have HP15 := Lib.hid hp
  have HR15 := Lib.hid (hl.blk HR14.out hwp)
  have HS15 := Lib.hid (hl.blk HS14.out hsp)
  have HL15 := Lib.hid (HL14.out.trans hl)
  clear hp hl HP14 HR14 HL14 HS14 cs fs
  obtain ⟨cs, fs⟩ := HS15.out.facts
  have hsl15 := HS15.out.lt
  go_simp
  repeat (first | go_values | go_skip | go_guarded | go_step | go_upon)
  refine Calls.mono (KBd.out ⟨#[76, 73, 77, 73, 84]⟩ W15 HP15.out) ?_
  rintro e W16 ⟨rfl, hp, hl⟩
  have HP16 := Lib.hid hp
  have HR16 := Lib.hid (hl.blk HR15.out hwp)
  have HS16 := Lib.hid (hl.blk HS15.out hsp)
  have HL16 := Lib.hid (HL15.out.trans hl)
  clear hp hl HP15 HR15 HL15 HS15 cs fs
  obtain ⟨cs, fs⟩ := HS16.out.facts
  have hsl16 := HS16.out.lt
  go_simp
  go_upto_region 19 with (fail)
  have HP17 := Lib.hid (HP16.out.other hps hgs 17 (.int .i64 (-1)))
  have HR17 := Lib.hid (HR16.out.other (a := ⟨W1.heap.size, 17, none⟩) hrs (.int .i64 (-1)))
  have HS17 := Lib.hid (show Blk (W16.setCell ⟨W1.heap.size, 17, none⟩ (.int .i64 (-1))) W1.heap.size #[.int .i64 9, .string ⟨#[]⟩, .string ⟨#[]⟩, .string ⟨#[]⟩, .int .i64 0, .int .i64 0, .slice none 0 0, .bool false, .bool false, .slice none 0 0, .slice none 0 0, .slice none 0 0, .slice none 0 0, .pointer none, .pointer none, .slice none 0 0, .slice none 0 0, .int .i64 (-1), .int .i64 (-1)] 102 from HS16.out.set 17 (.int .i64 (-1)))
  have HL17 := Lib.hid (HL16.out.cell hsw 17 (.int .i64 (-1)))
  generalize W16.setCell ⟨W1.heap.size, 17, none⟩ (.int .i64 (-1)) = W17 at HP17 HR17 HS17 HL17 ⊢
  clear HP16 HR16 HS16 HL16 cs fs
  obtain ⟨cs, fs⟩ := HS17.out.facts
  have hsl17 := HS17.out.lt
  go_upto_region 21 with (fail)
  go_wp2_with (first | refine wpList_load_row rfl 102 (.tmp 3) rfl W1.heap.size rfl 102 #[.int .i64 9, .string ⟨#[]⟩, .string ⟨#[]⟩, .string ⟨#[]⟩, .int .i64 0, .int .i64 0, .slice none 0 0, .bool false, .bool false, .slice none 0 0, .slice none 0 0, .slice none 0 0, .slice none 0 0, .pointer none, .pointer none, .slice none 0 0, .slice none 0 0, .int .i64 (-1), .int .i64 (-1)] (0, 0) _ HS17.out Tryz.underlying102 rfl (by kernel_rfl) ?_ | (refine wpList_store_row rfl 102 (.tmp 2) (.tmp 70) rfl w.heap.size #[.int .i64 9, .string ⟨#[]⟩, .string ⟨#[]⟩, .string ⟨#[]⟩, .int .i64 0, .int .i64 0, .slice none 0 0, .bool false, .bool false, .slice none 0 0, .slice none 0 0, .slice none 0 0, .slice none 0 0, .pointer none, .pointer none, .slice none 0 0, .slice none 0 0, .int .i64 (-1), .int .i64 (-1)] rfl rfl 102 #[.int .i64 0, .string ⟨#[]⟩, .string ⟨#[]⟩, .string ⟨#[]⟩, .int .i64 0, .int .i64 0, .slice none 0 0, .bool false, .bool false, .slice none 0 0, .slice none 0 0, .slice none 0 0, .slice none 0 0, .pointer none, .pointer none, .slice none 0 0, .slice none 0 0, .int .i64 0, .int .i64 0] HR17.out infoSt rfl (by simp [Value.oneCell']) ?_))
  refine bodyPost_ret (ret_stP rfl _ rfl rfl (setRow_heap W17 w.heap.size #[.int .i64 0, .string ⟨#[]⟩, .string ⟨#[]⟩, .string ⟨#[]⟩, .int .i64 0, .int .i64 0, .slice none 0 0, .bool false, .bool false, .slice none 0 0, .slice none 0 0, .slice none 0 0, .slice none 0 0, .pointer none, .pointer none, .slice none 0 0, .slice none 0 0, .int .i64 0, .int .i64 0] #[.int .i64 9, .string ⟨#[]⟩, .string ⟨#[]⟩, .string ⟨#[]⟩, .int .i64 0, .int .i64 0, .slice none 0 0, .bool false, .bool false, .slice none 0 0, .slice none 0 0, .slice none 0 0, .slice none 0 0, .pointer none, .pointer none, .slice none 0 0, .slice none 0 0, .int .i64 (-1), .int .i64 (-1)] _ _ HR17.out)) rfl ?_
  exact ⟨rfl, HP17.out.row hpw hgw #[.int .i64 9, .string ⟨#[]⟩, .string ⟨#[]⟩, .string ⟨#[]⟩, .int .i64 0, .int .i64 0, .slice none 0 0, .bool false, .bool false, .slice none 0 0, .slice none 0 0, .slice none 0 0, .slice none 0 0, .pointer none, .pointer none, .slice none 0 0, .slice none 0 0, .int .i64 (-1), .int .i64 (-1)], HL17.out.row hge #[.int .i64 9, .string ⟨#[]⟩, .string ⟨#[]⟩, .string ⟨#[]⟩, .int .i64 0, .int .i64 0, .slice none 0 0, .bool false, .bool false, .slice none 0 0, .slice none 0 0, .slice none 0 0, .slice none 0 0, .pointer none, .pointer none, .slice none 0 0, .slice none 0 0, .int .i64 (-1), .int .i64 (-1)]⟩
end
end Go.Proofs.YtchpbdodlbghaaaGreatDoor
namespace Go.Proofs.YtchpbdodlbghaaaGreatDoor
open Go.RowKit Go.Lib
set_option maxRecDepth 100000

def zzT : List Lx.Tok := [⟨1, [122, 122], 0, 0⟩]
theorem lex_zz : Lx.lex zzL = .ok zzT := by kernel_rfl
theorem zz_word (x : List UInt8) : isB zzT ⟨0, 0, 0, 0⟩ 2 x = false := rfl
theorem zz_want (x : List UInt8) : wantW zzT 2 ⟨0, 0, 0, 0⟩ x = ⟨0, 0, 0, 10⟩ := by unfold wantW; rw [zz_word]; rfl
set_option maxHeartbeats 8000000 in
theorem statement_zz (p g cap : Nat) (w : World) (h : PsAt w p g cap 2 zzT ⟨0, 0, 0, 0⟩) : Calls Tryz.prog 48 #[.pointer (some ⟨p, 0, none⟩)] w (PP p g cap 2 zzT ⟨0, 0, 0, 10⟩ (.agg #[.int .i64 9, .string ⟨#[]⟩, .string ⟨#[]⟩, .string ⟨#[]⟩, .int .i64 0, .int .i64 0, .slice none 0 0, .bool false, .bool false, .slice none 0 0, .slice none 0 0, .slice none 0 0, .slice none 0 0, .pointer none, .pointer none, .slice none 0 0, .slice none 0 0, .int .i64 (-1), .int .i64 (-1)]) w) := by
  have hpl : p < w.heap.size := h.blk.lt
  have hgl : g < w.heap.size := h.tok.1
  have hpw : p ≠ w.heap.size := by omega
  have hgw : g ≠ w.heap.size := by omega
  have hwp : w.heap.size ≠ p := Ne.symm hpw
  have HR0 := Lib.hid (Blk.new w #[.int .i64 0, .string ⟨#[]⟩, .string ⟨#[]⟩, .string ⟨#[]⟩, .int .i64 0, .int .i64 0, .slice none 0 0, .bool false, .bool false, .slice none 0 0, .slice none 0 0, .slice none 0 0, .slice none 0 0, .pointer none, .pointer none, .slice none 0 0, .slice none 0 0, .int .i64 0, .int .i64 0] 102 rfl)
  have hx0 : Ext w (w.alloc (.cells #[.int .i64 0, .string ⟨#[]⟩, .string ⟨#[]⟩, .string ⟨#[]⟩, .int .i64 0, .int .i64 0, .slice none 0 0, .bool false, .bool false, .slice none 0 0, .slice none 0 0, .slice none 0 0, .slice none 0 0, .pointer none, .pointer none, .slice none 0 0, .slice none 0 0, .int .i64 0, .int .i64 0] 102)) := (Ext.refl w).alloc _
  have HP0 := Lib.hid (h.ext hx0)
  have HL0 := Lib.hid (LeP.ofExt (p := p) hx0)
  clear h hx0
  have KWd := Lib.hid (fun x W hW => (by
    have := pword_any p g cap 2 zzT ⟨0, 0, 0, 0⟩ x W hW
    rw [zz_word] at this
    exact this : Calls Tryz.prog 71 #[.pointer (some ⟨p, 0, none⟩), .string x] W (PP p g cap 2 zzT ⟨0, 0, 0, 0⟩ (.bool false) W)))
  have KWt := Lib.hid (fun x b W hW hb => (by
    have := want_any p g cap 2 zzT ⟨0, 0, 0, 0⟩ x b W hW hb
    rw [zz_want] at this
    exact this : Calls Tryz.prog 77 #[.pointer (some ⟨p, 0, none⟩), .slice (some ⟨b, 0, none⟩) 1 1] W (PP p g cap 2 zzT ⟨0, 0, 0, 10⟩ (.tuple #[]) W)))
  have KQ := Lib.hid (fun W hW => query_err p g cap 2 zzT 0 0 0 W hW)
  generalize (⟨0, 0, 0, 0⟩ : PSt) = s at HP0 KWd KWt ⊢
  generalize (⟨0, 0, 0, 10⟩ : PSt) = s2 at KWt KQ ⊢
  go_enter Tryz.func48, Tryz.ntmps48
  go_simp
  repeat (first | go_values | go_skip | go_guarded | go_step | go_upon)
  refine Calls.mono (KWd.out ⟨#[67, 82, 69, 65, 84, 69]⟩ _ HP0.out) ?_
  rintro e W1 ⟨rfl, hp, hl⟩
  have HP1 := Lib.hid hp
  have HR1 := Lib.hid (hl.blk HR0.out hwp)
  have HL1 := Lib.hid (HL0.out.trans hl)
  clear hp hl HP0 HR0 HL0
  go_simp
  repeat (first | go_values | go_skip | go_guarded | go_step | go_upon)
  refine Calls.mono (KWd.out ⟨#[68, 82, 79, 80]⟩ _ HP1.out) ?_
  rintro e W2 ⟨rfl, hp, hl⟩
  have HP2 := Lib.hid hp
  have HR2 := Lib.hid (hl.blk HR1.out hwp)
  have HL2 := Lib.hid (HL1.out.trans hl)
  clear hp hl HP1 HR1 HL1
  go_simp
  repeat (first | go_values | go_skip | go_guarded | go_step | go_upon)
  refine Calls.mono (KWd.out ⟨#[73, 78, 83, 69, 82, 84]⟩ _ HP2.out) ?_
  rintro e W3 ⟨rfl, hp, hl⟩
  have HP3 := Lib.hid hp
  have HR3 := Lib.hid (hl.blk HR2.out hwp)
  have HL3 := Lib.hid (HL2.out.trans hl)
  clear hp hl HP2 HR2 HL2
  go_simp
  repeat (first | go_values | go_skip | go_guarded | go_step | go_upon)
  refine Calls.mono (KWd.out ⟨#[85, 80, 68, 65, 84, 69]⟩ _ HP3.out) ?_
  rintro e W4 ⟨rfl, hp, hl⟩
  have HP4 := Lib.hid hp
  have HR4 := Lib.hid (hl.blk HR3.out hwp)
  have HL4 := Lib.hid (HL3.out.trans hl)
  clear hp hl HP3 HR3 HL3
  go_simp
  repeat (first | go_values | go_skip | go_guarded | go_step | go_upon)
  refine Calls.mono (KWd.out ⟨#[68, 69, 76, 69, 84, 69]⟩ _ HP4.out) ?_
  rintro e W5 ⟨rfl, hp, hl⟩
  have HP5 := Lib.hid hp
  have HR5 := Lib.hid (hl.blk HR4.out hwp)
  have HL5 := Lib.hid (HL4.out.trans hl)
  clear hp hl HP4 HR4 HL4
  go_simp
  have hxb : Ext W5 (W5.alloc (.cells #[.string ⟨#[83, 69, 76, 69, 67, 84]⟩] 9)) := (Ext.refl W5).alloc _
  have HBw := Lib.hid (Blk.new W5 #[.string ⟨#[83, 69, 76, 69, 67, 84]⟩] 9 rfl)
  have HP6 := Lib.hid (HP5.out.ext hxb)
  have HR6 := Lib.hid (HR5.out.keep hxb)
  have HL6 := Lib.hid (HL5.out.trans (LeP.ofExt hxb))
  clear hxb HP5 HR5 HL5
  repeat (first | go_values | go_skip | go_guarded | go_step | go_upon)
  refine Calls.mono (KWt.out ⟨#[83, 69, 76, 69, 67, 84]⟩ _ _ HP6.out HBw.out) ?_
  rintro e W7 ⟨rfl, hp, hl⟩
  have HP7 := Lib.hid hp
  have HR7 := Lib.hid (hl.blk HR6.out hwp)
  have HL7 := Lib.hid (HL6.out.trans hl)
  clear hp hl HP6 HR6 HL6
  clear HBw KWd KWt
  go_simp
  repeat (first | go_values | go_skip | go_guarded | go_step | go_upon)
  refine Calls.mono (KQ.out _ HP7.out) ?_
  rintro e W8 ⟨rfl, hp, hl⟩
  have HP8 := Lib.hid hp
  have HR8 := Lib.hid (hl.blk HR7.out hwp)
  have HL8 := Lib.hid (HL7.out.trans hl)
  clear hp hl HP7 HR7 HL7
  go_wp2_with (refine wpList_store_row rfl 102 (.tmp 2) (.tmp 32) rfl w.heap.size #[.int .i64 9, .string ⟨#[]⟩, .string ⟨#[]⟩, .string ⟨#[]⟩, .int .i64 0, .int .i64 0, .slice none 0 0, .bool false, .bool false, .slice none 0 0, .slice none 0 0, .slice none 0 0, .slice none 0 0, .pointer none, .pointer none, .slice none 0 0, .slice none 0 0, .int .i64 (-1), .int .i64 (-1)] rfl rfl 102 #[.int .i64 0, .string ⟨#[]⟩, .string ⟨#[]⟩, .string ⟨#[]⟩, .int .i64 0, .int .i64 0, .slice none 0 0, .bool false, .bool false, .slice none 0 0, .slice none 0 0, .slice none 0 0, .slice none 0 0, .pointer none, .pointer none, .slice none 0 0, .slice none 0 0, .int .i64 0, .int .i64 0] HR8.out infoSt rfl (by simp [Value.oneCell']) ?_)
  refine bodyPost_ret (ret_stP rfl _ rfl rfl (setRow_heap W8 w.heap.size #[.int .i64 0, .string ⟨#[]⟩, .string ⟨#[]⟩, .string ⟨#[]⟩, .int .i64 0, .int .i64 0, .slice none 0 0, .bool false, .bool false, .slice none 0 0, .slice none 0 0, .slice none 0 0, .slice none 0 0, .pointer none, .pointer none, .slice none 0 0, .slice none 0 0, .int .i64 0, .int .i64 0] #[.int .i64 9, .string ⟨#[]⟩, .string ⟨#[]⟩, .string ⟨#[]⟩, .int .i64 0, .int .i64 0, .slice none 0 0, .bool false, .bool false, .slice none 0 0, .slice none 0 0, .slice none 0 0, .slice none 0 0, .pointer none, .pointer none, .slice none 0 0, .slice none 0 0, .int .i64 (-1), .int .i64 (-1)] _ _ HR8.out)) rfl ?_
  exact ⟨rfl, HP8.out.row hpw hgw #[.int .i64 9, .string ⟨#[]⟩, .string ⟨#[]⟩, .string ⟨#[]⟩, .int .i64 0, .int .i64 0, .slice none 0 0, .bool false, .bool false, .slice none 0 0, .slice none 0 0, .slice none 0 0, .slice none 0 0, .pointer none, .pointer none, .slice none 0 0, .slice none 0 0, .int .i64 (-1), .int .i64 (-1)], HL8.out.row (Nat.le_refl _) #[.int .i64 9, .string ⟨#[]⟩, .string ⟨#[]⟩, .string ⟨#[]⟩, .int .i64 0, .int .i64 0, .slice none 0 0, .bool false, .bool false, .slice none 0 0, .slice none 0 0, .slice none 0 0, .slice none 0 0, .pointer none, .pointer none, .slice none 0 0, .slice none 0 0, .int .i64 (-1), .int .i64 (-1)]⟩
def ZzPost (w : World) (e : Ending) (w' : World) : Prop := e = .returned (.tuple #[.agg #[.int .i64 0, .string ⟨#[]⟩, .string ⟨#[]⟩, .string ⟨#[]⟩, .int .i64 0, .int .i64 0, .slice none 0 0, .bool false, .bool false, .slice none 0 0, .slice none 0 0, .slice none 0 0, .slice none 0 0, .pointer none, .pointer none, .slice none 0 0, .slice none 0 0, .int .i64 0, .int .i64 0], .int .i64 0, .int .i64 10]) ∧ Below w.heap.size w w'
set_option maxHeartbeats 8000000 in
theorem stmt_zz (w : World) (hG : GlobL w) : Calls Tryz.prog 34 #[.string ⟨#[122, 122]⟩] w (ZzPost w) := by
  have HR0 := Lib.hid (Blk.new w #[.int .i64 0, .string ⟨#[]⟩, .string ⟨#[]⟩, .string ⟨#[]⟩, .int .i64 0, .int .i64 0, .slice none 0 0, .bool false, .bool false, .slice none 0 0, .slice none 0 0, .slice none 0 0, .slice none 0 0, .pointer none, .pointer none, .slice none 0 0, .slice none 0 0, .int .i64 0, .int .i64 0] 102 rfl)
  have hx0 : Ext w (w.alloc (.cells #[.int .i64 0, .string ⟨#[]⟩, .string ⟨#[]⟩, .string ⟨#[]⟩, .int .i64 0, .int .i64 0, .slice none 0 0, .bool false, .bool false, .slice none 0 0, .slice none 0 0, .slice none 0 0, .slice none 0 0, .pointer none, .pointer none, .slice none 0 0, .slice none 0 0, .int .i64 0, .int .i64 0] 102)) := (Ext.refl w).alloc _
  have KB := Lib.hid (begin_any ⟨#[122, 122]⟩ zzT lex_zz (by decide) (by decide) _ (hG.keep hx0) (by decide))
  have HX0 := Lib.hid hx0
  have KS := Lib.hid (fun p g cap W (hW : PsAt W p g cap 2 zzT ⟨0, 0, 0, 0⟩) => statement_zz p g cap W hW)
  have KO := Lib.hid (fun p g cap x W (hW : PsAt W p g cap 2 zzT ⟨0, 0, 0, 10⟩) => op_err p g cap 2 zzT 0 0 0 x W hW)
  have KE := Lib.hid (fun p g cap W (hW : PsAt W p g cap 2 zzT ⟨0, 0, 0, 10⟩) => (end_any p g cap 2 zzT ⟨0, 0, 0, 10⟩ W hW))
  rw [show endP zzT 2 ⟨0, 0, 0, 10⟩ = ⟨0, 0, 0, 10⟩ from rfl, show endA ⟨0, 0, 0, 10⟩ = 0 from rfl] at KE
  simp only at KE
  generalize (⟨0, 0, 0, 10⟩ : PSt) = s2 at KS KO KE
  rw [show (⟨#[122, 122]⟩ : ByteArray).size = 2 from rfl] at KB
  clear hx0 hG
  unfold ZzPost
  go_enter Tryz.func34, Tryz.ntmps34
  go_simp
  repeat (first | go_values | go_skip | go_guarded | go_step | go_upon)
  refine Calls.mono KB.out ?_
  rintro e W1 ⟨p, g, cap, rfl, hpw, hgw0, hp1, hb1⟩
  have hwp : w.heap.size ≠ p := by simp at hpw; omega
  have hwl : w.heap.size + 1 ≤ p := by simpa using hpw
  have hgw : g ≠ w.heap.size := by simp at hgw0; omega
  have HP1 := Lib.hid hp1
  have HR1 := Lib.hid (HR0.out.keep hb1)
  have HX1 := Lib.hid (HX0.out.trans hb1)
  clear hp1 hb1 HR0 HX0 KB hpw hgw0
  go_simp
  repeat (first | go_values | go_skip | go_guarded | go_step | go_upon)
  refine Calls.mono (KS.out p g cap W1 HP1.out) ?_
  rintro e W2 ⟨rfl, hp2, hl2⟩
  have HP2 := Lib.hid hp2
  have HR2 := Lib.hid (hl2.blk HR1.out hwp)
  have HL2 := Lib.hid (LeP.below HX1.out hl2 (by omega))
  clear hp2 hl2 HP1 HR1 HX1 KS
  go_wp2_with (refine wpList_store_row rfl 102 (.tmp 2) (.tmp 9) rfl w.heap.size #[.int .i64 9, .string ⟨#[]⟩, .string ⟨#[]⟩, .string ⟨#[]⟩, .int .i64 0, .int .i64 0, .slice none 0 0, .bool false, .bool false, .slice none 0 0, .slice none 0 0, .slice none 0 0, .slice none 0 0, .pointer none, .pointer none, .slice none 0 0, .slice none 0 0, .int .i64 (-1), .int .i64 (-1)] rfl rfl 102 #[.int .i64 0, .string ⟨#[]⟩, .string ⟨#[]⟩, .string ⟨#[]⟩, .int .i64 0, .int .i64 0, .slice none 0 0, .bool false, .bool false, .slice none 0 0, .slice none 0 0, .slice none 0 0, .slice none 0 0, .pointer none, .pointer none, .slice none 0 0, .slice none 0 0, .int .i64 0, .int .i64 0] HR2.out infoSt rfl (by simp [Value.oneCell']) ?_; have HR3 := Lib.hid (show Blk (W2.setRow w.heap.size #[.int .i64 9, .string ⟨#[]⟩, .string ⟨#[]⟩, .string ⟨#[]⟩, .int .i64 0, .int .i64 0, .slice none 0 0, .bool false, .bool false, .slice none 0 0, .slice none 0 0, .slice none 0 0, .slice none 0 0, .pointer none, .pointer none, .slice none 0 0, .slice none 0 0, .int .i64 (-1), .int .i64 (-1)]) w.heap.size #[.int .i64 9, .string ⟨#[]⟩, .string ⟨#[]⟩, .string ⟨#[]⟩, .int .i64 0, .int .i64 0, .slice none 0 0, .bool false, .bool false, .slice none 0 0, .slice none 0 0, .slice none 0 0, .slice none 0 0, .pointer none, .pointer none, .slice none 0 0, .slice none 0 0, .int .i64 (-1), .int .i64 (-1)] 102 from setRow_heap W2 w.heap.size #[.int .i64 0, .string ⟨#[]⟩, .string ⟨#[]⟩, .string ⟨#[]⟩, .int .i64 0, .int .i64 0, .slice none 0 0, .bool false, .bool false, .slice none 0 0, .slice none 0 0, .slice none 0 0, .slice none 0 0, .pointer none, .pointer none, .slice none 0 0, .slice none 0 0, .int .i64 0, .int .i64 0] #[.int .i64 9, .string ⟨#[]⟩, .string ⟨#[]⟩, .string ⟨#[]⟩, .int .i64 0, .int .i64 0, .slice none 0 0, .bool false, .bool false, .slice none 0 0, .slice none 0 0, .slice none 0 0, .slice none 0 0, .pointer none, .pointer none, .slice none 0 0, .slice none 0 0, .int .i64 (-1), .int .i64 (-1)] _ _ HR2.out); have HP3 := Lib.hid (HP2.out.row (Ne.symm hwp) hgw #[.int .i64 9, .string ⟨#[]⟩, .string ⟨#[]⟩, .string ⟨#[]⟩, .int .i64 0, .int .i64 0, .slice none 0 0, .bool false, .bool false, .slice none 0 0, .slice none 0 0, .slice none 0 0, .slice none 0 0, .pointer none, .pointer none, .slice none 0 0, .slice none 0 0, .int .i64 (-1), .int .i64 (-1)]); have HL3 := Lib.hid (below_row HL2.out (Nat.le_refl _) #[.int .i64 9, .string ⟨#[]⟩, .string ⟨#[]⟩, .string ⟨#[]⟩, .int .i64 0, .int .i64 0, .slice none 0 0, .bool false, .bool false, .slice none 0 0, .slice none 0 0, .slice none 0 0, .slice none 0 0, .pointer none, .pointer none, .slice none 0 0, .slice none 0 0, .int .i64 (-1), .int .i64 (-1)]); generalize W2.setRow w.heap.size #[.int .i64 9, .string ⟨#[]⟩, .string ⟨#[]⟩, .string ⟨#[]⟩, .int .i64 0, .int .i64 0, .slice none 0 0, .bool false, .bool false, .slice none 0 0, .slice none 0 0, .slice none 0 0, .slice none 0 0, .pointer none, .pointer none, .slice none 0 0, .slice none 0 0, .int .i64 (-1), .int .i64 (-1)] = W3 at HR3 HP3 HL3 ⊢; clear HR2 HP2 HL2)
  refine Calls.mono (KO.out p g cap _ W3 HP3.out) ?_
  rintro e W4 ⟨rfl, hp4, hl4⟩
  have HP4 := Lib.hid hp4
  have HR4 := Lib.hid (hl4.blk HR3.out hwp)
  have HL4 := Lib.hid (LeP.below HL3.out hl4 (by omega))
  clear hp4 hl4 HP3 HR3 HL3 KO
  go_simp
  repeat (first | go_values | go_skip | go_guarded | go_step | go_upon)
  refine Calls.mono (KE.out p g cap W4 HP4.out) ?_
  rintro e W5 ⟨rfl, hl5⟩
  have HR5 := Lib.hid (hl5.blk HR4.out hwp)
  have HL5 := Lib.hid (LeP.below HL4.out hl5 (by omega))
  clear hl5 HP4 HR4 HL4 KE
  have HR6 := Lib.hid (setRow_heap W5 w.heap.size #[.int .i64 9, .string ⟨#[]⟩, .string ⟨#[]⟩, .string ⟨#[]⟩, .int .i64 0, .int .i64 0, .slice none 0 0, .bool false, .bool false, .slice none 0 0, .slice none 0 0, .slice none 0 0, .slice none 0 0, .pointer none, .pointer none, .slice none 0 0, .slice none 0 0, .int .i64 (-1), .int .i64 (-1)] #[.int .i64 0, .string ⟨#[]⟩, .string ⟨#[]⟩, .string ⟨#[]⟩, .int .i64 0, .int .i64 0, .slice none 0 0, .bool false, .bool false, .slice none 0 0, .slice none 0 0, .slice none 0 0, .slice none 0 0, .pointer none, .pointer none, .slice none 0 0, .slice none 0 0, .int .i64 0, .int .i64 0] _ _ HR5.out)
  have HL6 := Lib.hid (below_row HL5.out (Nat.le_refl _) #[.int .i64 0, .string ⟨#[]⟩, .string ⟨#[]⟩, .string ⟨#[]⟩, .int .i64 0, .int .i64 0, .slice none 0 0, .bool false, .bool false, .slice none 0 0, .slice none 0 0, .slice none 0 0, .slice none 0 0, .pointer none, .pointer none, .slice none 0 0, .slice none 0 0, .int .i64 0, .int .i64 0])
  go_wp2_with (first
    | (refine wpList_store_row rfl 102 (.tmp 2) (.tmp 19) rfl w.heap.size #[.int .i64 0, .string ⟨#[]⟩, .string ⟨#[]⟩, .string ⟨#[]⟩, .int .i64 0, .int .i64 0, .slice none 0 0, .bool false, .bool false, .slice none 0 0, .slice none 0 0, .slice none 0 0, .slice none 0 0, .pointer none, .pointer none, .slice none 0 0, .slice none 0 0, .int .i64 0, .int .i64 0] rfl rfl 102 #[.int .i64 9, .string ⟨#[]⟩, .string ⟨#[]⟩, .string ⟨#[]⟩, .int .i64 0, .int .i64 0, .slice none 0 0, .bool false, .bool false, .slice none 0 0, .slice none 0 0, .slice none 0 0, .slice none 0 0, .pointer none, .pointer none, .slice none 0 0, .slice none 0 0, .int .i64 (-1), .int .i64 (-1)] HR5.out infoSt rfl (by simp [Value.oneCell']) ?_; generalize W5.setRow w.heap.size #[.int .i64 0, .string ⟨#[]⟩, .string ⟨#[]⟩, .string ⟨#[]⟩, .int .i64 0, .int .i64 0, .slice none 0 0, .bool false, .bool false, .slice none 0 0, .slice none 0 0, .slice none 0 0, .slice none 0 0, .pointer none, .pointer none, .slice none 0 0, .slice none 0 0, .int .i64 0, .int .i64 0] = W6 at HR6 HL6 ⊢; clear HR5 HL5)
    | (refine bodyPost_ret (ret_stP3 rfl _ rfl rfl HR6.out) rfl ?_))
  exact HL6.out
end Go.Proofs.YtchpbdodlbghaaaGreatDoor
