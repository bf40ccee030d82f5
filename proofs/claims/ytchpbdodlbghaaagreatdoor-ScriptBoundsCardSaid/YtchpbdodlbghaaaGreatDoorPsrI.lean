import Derived.Test.YtchpbdodlbghaaaGreatDoorPsrG
namespace Go.Proofs.YtchpbdodlbghaaaGreatDoor
open Go.RowKit Go.Lib
set_option maxRecDepth 100000

def wayP (f : FuncId) : Value := .func (.func f) #[] #[]
def lvsP : Array Value := #[.nilFunc, wayP 364, wayP 364, wayP 365, wayP 366, wayP 364, wayP 364, wayP 364, wayP 364, wayP 364, wayP 367, wayP 368, wayP 369]
theorem infoLvsP : (Tryz.prog.info? 442).map (·.size) = some 13 := by kernel_rfl
theorem ret_lvsP {t : Tmp} {fn : Func} (h : fn.results = #[.cell t 442]) (tmps : Array Value) {w : World} {g : Nat} {cs : Array Value} (hc : cs.size = 13) (hp : tmps.getD t undef = .pointer (some ⟨g, 0, none⟩)) (hg : Blk w g cs 442) :
    (results fn tmps).run Tryz.prog w = .ok (.agg cs) w := by
  have hp' : tmps[t]?.getD undef = .pointer (some ⟨g, 0, none⟩) := by simpa using hp
  have hr := run_loadVar_row w g 442 442 cs (0, 0) _ hg Tryz.underlying442 rfl (by rw [hc]; kernel_rfl)
  simp [results, h, hp', asAddr, hr]
set_option maxHeartbeats 2000000 in
theorem levels_any (w : World) : Calls Tryz.prog 274 #[] w fun e w' => e = .returned (.agg lvsP) ∧ Below w.heap.size w w' := by
  go_enter Tryz.func274, Tryz.ntmps274
  go_wp2_with (refine wpList_store_row rfl 442 (.tmp 0) (.tmp 9) rfl w.heap.size lvsP rfl rfl 442 (Array.replicate 13 .nilFunc) (Blk.new w _ _ rfl) infoLvsP rfl (by simp [lvsP, wayP, Value.oneCell']) ?_)
  rw [World.setRow_alloc_new]
  refine bodyPost_ret (ret_lvsP rfl _ rfl rfl (Blk.new w _ _ rfl)) rfl ?_
  exact ⟨rfl, by go_grown⟩
set_option maxHeartbeats 8000000 in
theorem level_err (kz : Int) (p g cap long : Nat) (T : List Lx.Tok) (s : PSt) (he : (s.e == 0) = false) (w : World) (h : PsAt w p g cap long T s) :
    Calls Tryz.prog 199 #[.pointer (some ⟨p, 0, none⟩), .int .i64 kz] w (LevPost p g cap long T zTr s w) := by
  have hpw : p ≠ w.heap.size := by have := h.blk.lt; omega
  have hgw : g ≠ w.heap.size := by have := h.tok.1; omega
  have hx0 : Ext w (w.alloc (.cells #[.int .i64 0, .int .i64 0, .string ⟨#[]⟩, .string ⟨#[]⟩, .int .i64 0, .slice none 0 0] 196)) := (Ext.refl w).alloc _
  have HX0 := Lib.hid hx0
  have HP0 := Lib.hid (h.ext hx0)
  have HR0 := Lib.hid (Blk.new w #[.int .i64 0, .int .i64 0, .string ⟨#[]⟩, .string ⟨#[]⟩, .int .i64 0, .slice none 0 0] 196 rfl)
  have hb := h.blk
  have hb0 : (s.e != 0) = true := by simp only [bne, he]; rfl
  clear h hx0
  obtain ⟨i, deep, at_, er⟩ := s
  simp only [psC] at hb he hb0
  obtain ⟨cb, fb⟩ := hb.facts
  have hbl := hb.lt
  clear hb
  go_enter Tryz.func199, Tryz.ntmps199
  go_simp
  repeat (first | go_values | go_skip | go_guarded | go_step | go_upon)
  refine bodyPost_ret (ret_ndP rfl _ rfl rfl HR0.out) rfl ?_
  exact ⟨⟨0, 0, ⟨#[]⟩, ⟨#[]⟩, 0, none, 0, 0⟩, rfl, .leaf 0 0 [] [] 0, HP0.out, LeP.ofExt HX0.out⟩
set_option maxHeartbeats 8000000 in
theorem level_own (kz : Int) (f : FuncId) (hidx : ∀ W, (Instr.index 442 (.agg lvsP) (.int .i64 kz)).run Tryz.prog W = .ok (.func (.func f) #[] #[]) W) (heg : ∀ args W, (callFunc f args).run Tryz.prog W = .ok (.enter f args) W)
    (p g cap long : Nat) (T : List Lx.Tok) (s : PSt) (he : (s.e == 0) = true) (r : Tr) (s' : PSt) (w : World) (h : PsAt w p g cap long T s)
    (hown : ∀ W, PsAt W p g cap long T s → Calls Tryz.prog f #[.pointer (some ⟨p, 0, none⟩), .int .i64 kz] W (LevPost p g cap long T r s' W)) :
    Calls Tryz.prog 199 #[.pointer (some ⟨p, 0, none⟩), .int .i64 kz] w (LevPost p g cap long T r s' w) := by
  have hpl : p < w.heap.size := h.blk.lt
  have hpw : p ≠ w.heap.size := by omega
  have hgw : g ≠ w.heap.size := by have := h.tok.1; omega
  have hwp : w.heap.size ≠ p := Ne.symm hpw
  have hx0 : Ext w (w.alloc (.cells #[.int .i64 0, .int .i64 0, .string ⟨#[]⟩, .string ⟨#[]⟩, .int .i64 0, .slice none 0 0] 196)) := (Ext.refl w).alloc _
  have HX0 := Lib.hid hx0
  have HP0 := Lib.hid (h.ext hx0)
  have HR0 := Lib.hid (Blk.new w #[.int .i64 0, .int .i64 0, .string ⟨#[]⟩, .string ⟨#[]⟩, .int .i64 0, .slice none 0 0] 196 rfl)
  have KL := Lib.hid (fun W => levels_any W)
  have KO := Lib.hid hown
  have HI := Lib.hid hidx
  have HEg := Lib.hid heg
  have hb := HP0.out.blk
  have hb0 : (s.e != 0) = false := by simp only [bne, he]; rfl
  clear h hx0 hown hidx heg
  have hss : ∃ s0, s0 = s := ⟨_, rfl⟩
  obtain ⟨s0, hs0⟩ := hss
  rw [← hs0] at KO HP0
  have HS0 := Lib.hid hs0
  clear hs0
  obtain ⟨i, deep, at_, er⟩ := s
  simp only [psC] at hb he hb0
  obtain ⟨cb, fb⟩ := hb.facts
  have hbl := hb.lt
  clear hb HS0
  go_enter Tryz.func199, Tryz.ntmps199
  go_simp
  repeat (first | go_values | go_skip | go_guarded | go_step | go_upon)
  refine Calls.mono (KL.out _) ?_
  rintro e W1 ⟨rfl, hb1⟩
  have HP1 := Lib.hid (HP0.out.ext hb1)
  have HR1 := Lib.hid (HR0.out.keep hb1)
  have HX1 := Lib.hid (HX0.out.trans hb1)
  have hw1 : w.heap.size < W1.heap.size := HR1.out.lt
  clear hb1 HP0 HR0 HX0 cb fb hbl
  have hi := HI.out W1
  have hcf := HEg.out
  go_simp
  repeat (first | go_values | go_skip | go_guarded | go_step | go_upon)
  refine Calls.mono (KO.out W1 HP1.out) ?_
  rintro e W2 ⟨x, rfl, ht, hp2, hl2⟩
  have HR2 := Lib.hid (hl2.blk HR1.out hwp)
  have HL2 := Lib.hid ((LeP.ofExt HX1.out).trans hl2)
  have HT2 := Lib.hid (ht.mono (B := fun g => w.heap.size < g) fun g h1 h2 => by omega)
  have HP2 := Lib.hid hp2
  clear ht hp2 hl2 HP1 HR1 HX1 hi hcf
  obtain ⟨xk, xo, xs, xt, xn, xla, xln, xlc⟩ := x
  simp only [PN.v]
  obtain ⟨cr, fr⟩ := HR2.out.facts
  have hrl := HR2.out.lt
  go_simp
  repeat (first | go_values | go_skip | go_guarded | go_step | go_upon)
  refine bodyPost_ret (ret_ndP rfl _ rfl rfl (blk6P HR2.out _ _ _ _ _ _)) rfl ?_
  refine ⟨⟨xk, xo, xs, xt, xn, xla, xln, xlc⟩, rfl, ?_, HP2.out.other6 hpw hgw _ _ _ _ _ _, HL2.out.other6 (Nat.le_refl _) _ _ _ _ _ _⟩
  exact (HT2.out.set6 (b := w.heap.size) (fun g h => by omega) _ _ _ _ _ _).mono fun g h _ => Nat.le_of_lt h
end Go.Proofs.YtchpbdodlbghaaaGreatDoor
