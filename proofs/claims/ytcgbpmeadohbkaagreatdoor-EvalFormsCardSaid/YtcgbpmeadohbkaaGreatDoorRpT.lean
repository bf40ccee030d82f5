import Derived.Test.YtcgbpmeadohbkaaGreatDoorRpS
namespace Go.Proofs.YtcgbpmeadohbkaaGreatDoor
open Go.RowKit Go.Lib
set_option maxRecDepth 100000
def endR (T : List Lx.Tok) (long : Nat) (s : PSt) : PSt := if s.i < T.length then wrongP T long 10 s else s
def readT (T : List Lx.Tok) (long : Nat) : Tr × PSt := (rExpr T long (16 * T.length + 14) 1 ⟨0, 0, 0, 0⟩).getD (zTr, ⟨0, 0, 0, 0⟩)
def toldR (l : List UInt8) : Tr × Int × Int :=
 if (lexR l).2.2 ≠ 0 then (zTr, (lexR l).2.1, (lexR l).2.2)
 else if (endR (lexR l).1 l.length (readT (lexR l).1 l.length).2).e ≠ 0 then (zTr, (endR (lexR l).1 l.length (readT (lexR l).1 l.length).2).at_, (endR (lexR l).1 l.length (readT (lexR l).1 l.length).2).e)
 else ((readT (lexR l).1 l.length).1, 0, 0)
theorem readT_ok (T : List Lx.Tok) (long : Nat) : rExpr T long (16 * T.length + 14) 1 ⟨0, 0, 0, 0⟩ = some (readT T long) := by
 obtain ⟨m, hm⟩ := en_expr T long (16 * T.length + 14) 1 ⟨0, 0, 0, 0⟩ (by omega) (by omega) (by simp)
 unfold readT
 rw [hm]; rfl
theorem toldR_wf (l : List UInt8) (h : (toldR l).2.2 = 0) : Wf (toldR l).1 := by
 unfold toldR at h ⊢
 by_cases h1 : (lexR l).2.2 ≠ 0
 ·rw [if_pos h1] at h; exact absurd h h1
 ·rw [if_neg h1] at h ⊢
  by_cases h2 : (endR (lexR l).1 l.length (readT (lexR l).1 l.length).2).e ≠ 0
  ·rw [if_pos h2] at h; exact absurd h h2
  ·rw [if_neg h2] at h ⊢
   have h3 : (endR (lexR l).1 l.length (readT (lexR l).1 l.length).2).e = 0 := by simpa using h2
   refine (wf_expr _ _ _ 1 _ _ _ (readT_ok (lexR l).1 l.length) ?_).2
   unfold endR at h3
   split at h3
   ·exact err_wrong _ _ _ _ h3
   ·exact h3
def toldV (x : PN) (a e : Int) : Array Value := #[.int .i64 x.k, .int .i64 x.o, .string x.s, .string x.t, .int .i64 x.n, .slice x.la x.ln x.lc, .int .i64 0, .string ⟨#[]⟩, .string ⟨#[]⟩, .string ⟨#[]⟩, .int .i64 0, .int .i64 0, .slice none 0 0, .bool false, .bool false, .slice none 0 0, .slice none 0 0, .slice none 0 0, .slice none 0 0, .pointer none, .pointer none, .slice none 0 0, .slice none 0 0, .int .i64 0, .int .i64 0, .int .i64 a, .int .i64 e]
theorem infoTold : (Tryz.prog.info? 58).map (fun i => i.size) = some 27 := by kernel_rfl
theorem ret_told {t : Tmp} {fn : Func} (h : fn.results = #[.cell t 58]) (tmps : Array Value) {w : World} {g : Nat} {cs : Array Value} (hc : cs.size = 27) (hp : tmps.getD t undef = .pointer (some ⟨g, 0, none⟩)) (hg : Blk w g cs 58) :
 (results fn tmps).run Tryz.prog w = .ok (.agg cs) w := by
 have hp' : tmps[t]?.getD undef = .pointer (some ⟨g, 0, none⟩) := by simpa using hp
 have hr := run_loadVar_row w g 58 58 cs (0, 0) _ hg Tryz.underlying58 rfl (by rw [hc]; kernel_rfl)
 simp [results, h, hp', asAddr, hr]
def ToldPost (r : Tr) (a er : Int) (w : World) (e : Ending) (w' : World) : Prop := ∃ x : PN, e = .returned (.agg (toldV x a er)) ∧ TrAt (w.heap.size ≤ ·) w' x r ∧ Below w.heap.size w w'
theorem toldPost_row {w W : World} {x : PN} {r : Tr} {a er : Int} (hb : Below w.heap.size w W) (hT : TrAt (w.heap.size < ·) W x r) (V : Array Value) (hV : V = toldV x a er) : ToldPost r a er w (.returned (.agg V)) (W.setRow w.heap.size V) :=
 ⟨x, by rw [hV], (hT.row (b := w.heap.size) (fun g h => by omega) V).mono fun g h _ => Nat.le_of_lt h, ⟨hb.os, hb.tape, hb.output, by simpa using hb.size, fun i hi => (setRow_other W w.heap.size i V (by omega)).trans (hb.block i hi)⟩⟩
theorem yields_storeT {o : Oper} {ρ : Operand → Value} {w : World} {Y : Value → World → Prop} {x y : Operand} {g : Nat} {old cs : Array Value} (ho : o.op = .store 58 x y) (hx : ρ x = .pointer (some ⟨g, 0, none⟩)) (hy : ρ y = .agg cs) (hg : Blk w g old 58) (hold : old.size = 27) (hcs : cs.size = 27)
 (h1 : cs.all (·.oneCell') = true) (h : Y undef (w.setRow g cs)) : yields Tryz.prog o ρ w Y := by
 have hr := run_storeVar_row (P := Tryz.prog) w g 58 58 old cs hg (by rw [hcs]; kernel_rfl) (by omega) h1
 unfold yields execOp
 simp only [ho, hx, hy, Instr.storeAt, Instr.sureAddr, Sem.run_bind, Sem.run_pure, Result.andThen_ok, hr]
 exact h
set_option maxHeartbeats 8000000 in
theorem rtold_any (s : ByteArray) (w : World) (hs : s.size ≤ maxLen) : Calls Tryz.prog 24 #[.string s] w (ToldPost (toldR (bsl s)).1 (toldR (bsl s)).2.1 (toldR (bsl s)).2.2 w) := by
 have mixed : Tryz.prog.follows .mixedOrders = true := by kernel_rfl
 have hx0 : Ext w (w.alloc (.cells #[.int .i64 0, .int .i64 0, .string ⟨#[]⟩, .string ⟨#[]⟩, .int .i64 0, .slice none 0 0, .int .i64 0, .string ⟨#[]⟩, .string ⟨#[]⟩, .string ⟨#[]⟩, .int .i64 0, .int .i64 0, .slice none 0 0, .bool false, .bool false, .slice none 0 0, .slice none 0 0, .slice none 0 0, .slice none 0 0, .pointer none, .pointer none, .slice none 0 0, .slice none 0 0, .int .i64 0, .int .i64 0, .int .i64 0, .int .i64 0] 58)) := (Ext.refl w).alloc _
 have HR0 := Lib.hid (Blk.new w #[.int .i64 0, .int .i64 0, .string ⟨#[]⟩, .string ⟨#[]⟩, .int .i64 0, .slice none 0 0, .int .i64 0, .string ⟨#[]⟩, .string ⟨#[]⟩, .string ⟨#[]⟩, .int .i64 0, .int .i64 0, .slice none 0 0, .bool false, .bool false, .slice none 0 0, .slice none 0 0, .slice none 0 0, .slice none 0 0, .pointer none, .pointer none, .slice none 0 0, .slice none 0 0, .int .i64 0, .int .i64 0, .int .i64 0, .int .i64 0] 58 rfl)
 have KB := Lib.hid (fun W => rbegin_any s W hs)
 have HX0 := Lib.hid hx0
 obtain ⟨R, hR⟩ : ∃ R, R = toldR (bsl s) := ⟨_, rfl⟩
 rw [← hR]
 obtain ⟨r, A, E⟩ := R
 have HR := Lib.hid hR
 unfold toldR at HR
 rw [bsl_length] at HR
 generalize lexR (bsl s) = L at KB HR
 obtain ⟨T, a, er⟩ := L
 simp only at HR
 clear hs hx0 hR
 go_enter Tryz.func24, Tryz.ntmps24
 go_upto_region 1 with (fail)
 generalize (w.alloc (.cells #[.int .i64 0, .int .i64 0, .string ⟨#[]⟩, .string ⟨#[]⟩, .int .i64 0, .slice none 0 0, .int .i64 0, .string ⟨#[]⟩, .string ⟨#[]⟩, .string ⟨#[]⟩, .int .i64 0, .int .i64 0, .slice none 0 0, .bool false, .bool false, .slice none 0 0, .slice none 0 0, .slice none 0 0, .slice none 0 0, .pointer none, .pointer none, .slice none 0 0, .slice none 0 0, .int .i64 0, .int .i64 0, .int .i64 0, .int .i64 0] 58)) = W0 at HR0 HX0 ⊢
 go_simp
 repeat (first | go_values | go_skip | go_guarded | go_step | go_upon)
 refine Calls.mono (KB.out W0) ?_
 rintro e W1 ⟨p, g, c, rfl, hp0, hg0, hp1, hb1⟩
 have hw0 := HR0.out.lt
 have HP1 := Lib.hid hp1
 have HR1 := Lib.hid (HR0.out.keep hb1)
 have HX1 := Lib.hid (Ext.trans HX0.out hb1)
 simp only at HP1
 clear hp1 hb1 HR0 HX0 KB
 go_upto_region 2 with (fail)
 have hx2 : Ext W1 (W1.alloc (.cells #[.slice (psA g T.length) T.length c, .int .i64 a, .int .i64 er] 102)) := (Ext.refl W1).alloc _
 have HV2 := Lib.hid (Blk.new W1 #[.slice (psA g T.length) T.length c, .int .i64 a, .int .i64 er] 102 rfl)
 have HP2 := Lib.hid (HP1.out.ext hx2)
 have HR2 := Lib.hid (HR1.out.keep hx2)
 have HX2 := Lib.hid (Ext.trans HX1.out hx2)
 have hw1 : w.heap.size < W1.heap.size := HR1.out.lt
 clear hx2 HP1 HR1 HX1
 generalize (W1.alloc (.cells #[.slice (psA g T.length) T.length c, .int .i64 a, .int .i64 er] 102)) = W2 at HV2 HP2 HR2 HX2 ⊢
 generalize W1.heap.size = b4 at HV2 hw1 ⊢
 obtain ⟨cv, fv⟩ := HV2.out.facts
 have hvl := HV2.out.lt
 have hwp : w.heap.size ≠ p := by omega
 by_cases her : er = 0
 ·subst her
  have HR' := HR.out
  rw [if_neg (by simp)] at HR'
  have HRe := Lib.hid HR'
  have hrd := readT_ok T s.size
  obtain ⟨q, hm⟩ : ∃ q, q = readT T s.size := ⟨_, rfl⟩
  rw [← hm] at HRe hrd
  obtain ⟨m, s2⟩ := q
  have KL := Lib.hid (rexpr_any p g c s.size T _ 1 1 _ m s2 W2 rfl (by decide) hrd HP2.out)
  have KF := Lib.hid (fun W (hW : RsAt W p g c s.size T s2) => rfail_any p g c s.size T s2 10 W hW)
  simp only at HRe
  clear HR' HR hrd hm
  go_simp
  repeat (first | go_values | go_skip | go_guarded | go_step | go_upon)
  refine Calls.mono KL.out ?_
  rintro e W3 ⟨x, rfl, hty, hpy, hly⟩
  have hw2 := HR2.out.lt
  have HP3 := Lib.hid hpy
  have HR3 := Lib.hid (hly.blk HR2.out hwp)
  have HX3 := Lib.hid (LeP.below HX2.out hly (by omega))
  have HT3 := Lib.hid (hty.mono (B := fun g => w.heap.size < g ∧ g ≠ p) fun g h1 _ => ⟨by omega, by have := HP2.out.blk.lt; omega⟩)
  have hs3 := hly.size
  clear hty hpy hly HP2 HR2 HX2 KL cv fv hvl HV2
  obtain ⟨xk, xo, xs, xt, xn, xla, xln, xlc⟩ := x
  simp only [PN.v]
  go_upto_region 5 with (fail)
  have hx4 : Ext W3 (W3.alloc (.cells #[.int .i64 xk, .int .i64 xo, .string xs, .string xt, .int .i64 xn, .slice xla xln xlc] 24)) := (Ext.refl W3).alloc _
  have HV4 := Lib.hid (Blk.new W3 #[.int .i64 xk, .int .i64 xo, .string xs, .string xt, .int .i64 xn, .slice xla xln xlc] 24 rfl)
  have HP4 := Lib.hid (HP3.out.ext hx4)
  have HR4 := Lib.hid (HR3.out.keep hx4)
  have HX4 := Lib.hid (Ext.trans HX3.out hx4)
  have HT4 := Lib.hid (HT3.out.later (p := p) (fun g h => h.2) (LeP.ofExt hx4))
  have hp3 := HP3.out.blk.lt
  clear hx4 HP3 HR3 HX3 HT3
  generalize (W3.alloc (.cells #[.int .i64 xk, .int .i64 xo, .string xs, .string xt, .int .i64 xn, .slice xla xln xlc] 24)) = W4 at HV4 HP4 HR4 HX4 HT4 ⊢
  have h5p : W3.heap.size ≠ p := by omega
  have hw5 : w.heap.size < W3.heap.size := by omega
  generalize W3.heap.size = b5 at HV4 h5p hw5 ⊢
  clear hs3 hp3 hw2
  have hb := HP4.out.blk
  unfold rsC at hb
  obtain ⟨cb, fb⟩ := hb.facts
  have hbl := hb.lt
  clear hb
  unfold endR at HRe
  by_cases hlt : s2.i < T.length
  ·rw [if_pos hlt] at HRe
   have hltB : decide ((s2.i : Int) < (T.length : Int)) = true := by rw [decide_eq_true_iff]; omega
   have hltB2 : decide (s2.i < T.length) = true := by rw [decide_eq_true_iff]; exact hlt
   go_quiet (fail)
   go_simp
   repeat (first | go_values | go_skip | go_guarded | go_step | go_upon)
   refine Calls.mono (KF.out _ (HP4.out.ext (bel_drewN _ _))) ?_
   rintro e W5 ⟨rfl, hp5, hl5⟩
   generalize wrongP T s.size 10 s2 = s3 at hp5 HRe
   have hl6 : LeP p W4 W5 := (LeP.ofExt (bel_drewN _ _)).trans hl5
   clear hl5
   have HP5 := Lib.hid hp5
   have HV5 := Lib.hid (hl6.blk HV4.out h5p)
   have HR5 := Lib.hid (hl6.blk HR4.out hwp)
   have HX5 := Lib.hid (LeP.below HX4.out hl6 (by omega))
   have HT5 := Lib.hid (HT4.out.later (p := p) (fun g h => h.2) hl6)
   clear hp5 hl6 HP4 HV4 HR4 HX4 HT4 cb fb hbl KF
   have hb := HP5.out.blk
   unfold rsC at hb
   obtain ⟨cb, fb⟩ := hb.facts
   have hbl := hb.lt
   clear hb
   by_cases he3 : s3.e = 0
   ·have HR' := HRe.out
    rw [if_neg (by simpa using he3)] at HR'
    obtain ⟨rfl, hr2⟩ := Prod.mk.inj HR'
    obtain ⟨rfl, rfl⟩ := Prod.mk.inj hr2
    clear HR' hr2 HRe
    obtain ⟨i3, d3, a3, e3⟩ := s3
    simp only at he3 cb fb hbl
    subst he3
    obtain ⟨cv, fv⟩ := HV5.out.facts
    have hvl := HV5.out.lt
    have HRz := Lib.hid (setRow_heap W5 w.heap.size _ #[.int .i64 xk, .int .i64 xo, .string xs, .string xt, .int .i64 xn, .slice xla xln xlc, .int .i64 0, .string ⟨#[]⟩, .string ⟨#[]⟩, .string ⟨#[]⟩, .int .i64 0, .int .i64 0, .slice none 0 0, .bool false, .bool false, .slice none 0 0, .slice none 0 0, .slice none 0 0, .slice none 0 0, .pointer none, .pointer none, .slice none 0 0, .slice none 0 0, .int .i64 0, .int .i64 0, .int .i64 0, .int .i64 0] _ _ HR5.out)
    have HPz := Lib.hid (toldPost_row HX5.out (HT5.out.mono fun g h _ => h.1) #[.int .i64 xk, .int .i64 xo, .string xs, .string xt, .int .i64 xn, .slice xla xln xlc, .int .i64 0, .string ⟨#[]⟩, .string ⟨#[]⟩, .string ⟨#[]⟩, .int .i64 0, .int .i64 0, .slice none 0 0, .bool false, .bool false, .slice none 0 0, .slice none 0 0, .slice none 0 0, .slice none 0 0, .pointer none, .pointer none, .slice none 0 0, .slice none 0 0, .int .i64 0, .int .i64 0, .int .i64 0, .int .i64 0] rfl)
    go_wp2_with (first
     | (refine wpList_store_row rfl 58 (.tmp 2) (.tmp 48) rfl w.heap.size #[.int .i64 xk, .int .i64 xo, .string xs, .string xt, .int .i64 xn, .slice xla xln xlc, .int .i64 0, .string ⟨#[]⟩, .string ⟨#[]⟩, .string ⟨#[]⟩, .int .i64 0, .int .i64 0, .slice none 0 0, .bool false, .bool false, .slice none 0 0, .slice none 0 0, .slice none 0 0, .slice none 0 0, .pointer none, .pointer none, .slice none 0 0, .slice none 0 0, .int .i64 0, .int .i64 0, .int .i64 0, .int .i64 0] rfl rfl 58 #[.int .i64 0, .int .i64 0, .string ⟨#[]⟩, .string ⟨#[]⟩, .int .i64 0, .slice none 0 0, .int .i64 0, .string ⟨#[]⟩, .string ⟨#[]⟩, .string ⟨#[]⟩, .int .i64 0, .int .i64 0, .slice none 0 0, .bool false, .bool false, .slice none 0 0, .slice none 0 0, .slice none 0 0, .slice none 0 0, .pointer none, .pointer none, .slice none 0 0, .slice none 0 0, .int .i64 0, .int .i64 0, .int .i64 0, .int .i64 0] HR5.out infoTold rfl (by simp [Value.oneCell']) ?_; generalize W5.setRow w.heap.size #[.int .i64 xk, .int .i64 xo, .string xs, .string xt, .int .i64 xn, .slice xla xln xlc, .int .i64 0, .string ⟨#[]⟩, .string ⟨#[]⟩, .string ⟨#[]⟩, .int .i64 0, .int .i64 0, .slice none 0 0, .bool false, .bool false, .slice none 0 0, .slice none 0 0, .slice none 0 0, .slice none 0 0, .pointer none, .pointer none, .slice none 0 0, .slice none 0 0, .int .i64 0, .int .i64 0, .int .i64 0, .int .i64 0] = Wz at HRz HPz ⊢)
     | (refine bodyPost_ret (ret_told rfl _ rfl rfl HRz.out) rfl ?_))
    exact HPz.out
   ·have HR' := HRe.out
    rw [if_pos he3] at HR'
    obtain ⟨rfl, hr2⟩ := Prod.mk.inj HR'
    obtain ⟨rfl, rfl⟩ := Prod.mk.inj hr2
    clear HR' hr2 HRe
    obtain ⟨i3, d3, a3, e3⟩ := s3
    simp only at he3 cb fb hbl ⊢
    have heb : (e3 != 0) = true := by simpa [bne] using he3
    go_upto_region 8 with (fail)
    have HF := Lib.hid (show ∀ W, Ext W5 W → (∀ j, W.cell? ⟨p, j, none⟩ = (#[.slice (psA g T.length) T.length c, .int .i64 i3, .int .i64 e3, .int .i64 a3, .int .i64 d3, .int .i64 s.size] : Array Value)[j]?) from fun W hW => (HP5.out.blk.keep hW).cell)
    refine wp_parZF [] (leX) [0, 1, 2, 3, 4, 5, 6, 7, 8, 9] 9 9 (fun
     | 0 => fun _ v _ => v = .pointer (some ⟨p, 0, none⟩)
     | 1 => fun _ v _ => v = .pointer (some ⟨p, 0, none⟩)
     | 2 => fun _ v _ => v = .pointer (some ⟨p, 3, none⟩)
     | 3 => fun _ v _ => v = .int .i64 a3
     | 4 => fun _ v _ => v = .pointer (some ⟨p, 0, none⟩)
     | 5 => fun _ v _ => v = .pointer (some ⟨p, 0, none⟩)
     | 6 => fun _ v _ => v = .pointer (some ⟨p, 2, none⟩)
     | 7 => fun _ v _ => v = .int .i64 e3
     | 8 => fun _ v _ => v = .agg #[.int .i64 0, .int .i64 0, .string ⟨#[]⟩, .string ⟨#[]⟩, .int .i64 0, .slice none 0 0, .int .i64 0, .string ⟨#[]⟩, .string ⟨#[]⟩, .string ⟨#[]⟩, .int .i64 0, .int .i64 0, .slice none 0 0, .bool false, .bool false, .slice none 0 0, .slice none 0 0, .slice none 0 0, .slice none 0 0, .pointer none, .pointer none, .slice none 0 0, .slice none 0 0, .int .i64 0, .int .i64 0, .int .i64 a3, .int .i64 e3]
     | _ => fun _ _ _ => True) (fun
     | _ => undef) (by kernel_rfl) (by kernel_rfl) (by kernel_rfl) ?_ ?_ ?_ ?_ ?_
    ·simp (maxSteps := 20000000) only [permL, permOp, List.filterMap_cons, List.filterMap_nil, List.getElem?_cons_succ, List.getElem?_cons_zero, Option.map_some, Option.map_none, List.take_succ_cons, List.take_zero, ParAllG, Act.put, List.setIfInBounds_toArray, List.set_cons_succ, List.set_cons_zero]
     refine ⟨?_, ?_, ?_, ?_, ?_, ?_, ?_, ?_, ?_, trivial⟩
     all_goals
      intro vals W hx hd
      have hW := HF.out W hx
      simp [PDepsG, pdeps, Region.binds, List.idxOf_cons] at hd
      first
       | refine ParObG.plain rfl ?_
       | refine ParObG.wanted (by simp [Region.wanted, yielded, hd]) ?_
     iterate 9
      next =>
       go_simp
       exact ParPostG.same (leX) fun _ _ => rfl
    ·simp (maxSteps := 20000000) only [permL, permOp, List.filterMap_cons, List.filterMap_nil, List.getElem?_cons_succ, List.getElem?_cons_zero, Option.map_some, Option.map_none, List.drop_succ_cons, List.drop_zero, List.take_succ_cons, List.take_zero, Nat.reduceSub, ZAll, ParEnd, Act.put, List.setIfInBounds_toArray, List.set_cons_succ, List.set_cons_zero]
    ·intro i hi
     cases hi
    ·intro i hi
     cases hi
    intro vals W hx hf hz hdist
    simp (maxSteps := 20000000) only [permL, permOp, List.filterMap_cons, List.filterMap_nil, List.getElem?_cons_succ, List.getElem?_cons_zero, Option.map_some, Option.map_none, ParFactsG, List.take_succ_cons, List.take_zero, and_true, Nat.reduceAdd] at hf
    obtain ⟨f0, f1, f2, f3, f4, f5, f6, f7, f8⟩ := hf
    clear hz
    simp (maxSteps := 20000000) only [permL, permOp, List.filterMap_cons, List.filterMap_nil, List.getElem?_cons_succ, List.getElem?_cons_zero, Option.map_some, Option.map_none, List.drop_succ_cons, List.drop_zero, List.take_succ_cons, List.take_zero, Nat.reduceSub, ParEnd, ZTail, Act.put, List.setIfInBounds_toArray, List.set_cons_succ, List.set_cons_zero, Nat.reduceAdd, f0, f1, f2, f3, f4, f5, f6, f7, f8]
    clear f0 f1 f2 f3 f4 f5 f6 f7 f8
    have HRz := Lib.hid (setRow_heap W w.heap.size _ #[.int .i64 0, .int .i64 0, .string ⟨#[]⟩, .string ⟨#[]⟩, .int .i64 0, .slice none 0 0, .int .i64 0, .string ⟨#[]⟩, .string ⟨#[]⟩, .string ⟨#[]⟩, .int .i64 0, .int .i64 0, .slice none 0 0, .bool false, .bool false, .slice none 0 0, .slice none 0 0, .slice none 0 0, .slice none 0 0, .pointer none, .pointer none, .slice none 0 0, .slice none 0 0, .int .i64 0, .int .i64 0, .int .i64 a3, .int .i64 e3] _ _ (HR5.out.keep hx))
    have HPz := Lib.hid (toldPost_row (Ext.trans HX5.out hx) (TrAt.leaf (A := (w.heap.size < ·)) (w := W) 0 0 [] [] 0) #[.int .i64 0, .int .i64 0, .string ⟨#[]⟩, .string ⟨#[]⟩, .int .i64 0, .slice none 0 0, .int .i64 0, .string ⟨#[]⟩, .string ⟨#[]⟩, .string ⟨#[]⟩, .int .i64 0, .int .i64 0, .slice none 0 0, .bool false, .bool false, .slice none 0 0, .slice none 0 0, .slice none 0 0, .slice none 0 0, .pointer none, .pointer none, .slice none 0 0, .slice none 0 0, .int .i64 0, .int .i64 0, .int .i64 a3, .int .i64 e3] rfl)
    refine ⟨?_⟩
    refine yields_storeT (g := w.heap.size) (cs := #[.int .i64 0, .int .i64 0, .string ⟨#[]⟩, .string ⟨#[]⟩, .int .i64 0, .slice none 0 0, .int .i64 0, .string ⟨#[]⟩, .string ⟨#[]⟩, .string ⟨#[]⟩, .int .i64 0, .int .i64 0, .slice none 0 0, .bool false, .bool false, .slice none 0 0, .slice none 0 0, .slice none 0 0, .slice none 0 0, .pointer none, .pointer none, .slice none 0 0, .slice none 0 0, .int .i64 0, .int .i64 0, .int .i64 a3, .int .i64 e3]) rfl (by simp [Act.eval]) (by simp [Act.eval]) (HR5.out.keep hx) rfl rfl (by simp [Value.oneCell']) ?_
    generalize W.setRow w.heap.size #[.int .i64 0, .int .i64 0, .string ⟨#[]⟩, .string ⟨#[]⟩, .int .i64 0, .slice none 0 0, .int .i64 0, .string ⟨#[]⟩, .string ⟨#[]⟩, .string ⟨#[]⟩, .int .i64 0, .int .i64 0, .slice none 0 0, .bool false, .bool false, .slice none 0 0, .slice none 0 0, .slice none 0 0, .slice none 0 0, .pointer none, .pointer none, .slice none 0 0, .slice none 0 0, .int .i64 0, .int .i64 0, .int .i64 a3, .int .i64 e3] = Wz at HRz HPz ⊢
    go_simp
    repeat (first | go_values | go_skip | go_guarded | go_step | go_upon)
    refine bodyPost_ret (ret_told rfl _ rfl rfl HRz.out) rfl ?_
    exact HPz.out
  ·rw [if_neg hlt] at HRe
   have hnl : decide ((s2.i : Int) < (T.length : Int)) = false := by rw [decide_eq_false_iff_not]; omega
   have hnl2 : decide (s2.i < T.length) = false := by rw [decide_eq_false_iff_not]; omega
   go_quiet (fail)
   obtain ⟨W5, hW5⟩ : ∃ W5, W5 = World.drewN W4 nq := ⟨_, rfl⟩
   rw [← hW5]
   have hl6 : LeP p W4 W5 := by rw [hW5]; exact LeP.ofExt (bel_drewN _ _)
   have hp5 := HP4.out.ext (show Ext W4 W5 by rw [hW5]; exact bel_drewN _ _)
   clear hW5
   generalize s2 = s3 at hp5 HRe
   have HP5 := Lib.hid hp5
   have HV5 := Lib.hid (hl6.blk HV4.out h5p)
   have HR5 := Lib.hid (hl6.blk HR4.out hwp)
   have HX5 := Lib.hid (LeP.below HX4.out hl6 (by omega))
   have HT5 := Lib.hid (HT4.out.later (p := p) (fun g h => h.2) hl6)
   clear hp5 hl6 HP4 HV4 HR4 HX4 HT4 cb fb hbl KF
   have hb := HP5.out.blk
   unfold rsC at hb
   obtain ⟨cb, fb⟩ := hb.facts
   have hbl := hb.lt
   clear hb
   by_cases he3 : s3.e = 0
   ·have HR' := HRe.out
    rw [if_neg (by simpa using he3)] at HR'
    obtain ⟨rfl, hr2⟩ := Prod.mk.inj HR'
    obtain ⟨rfl, rfl⟩ := Prod.mk.inj hr2
    clear HR' hr2 HRe
    obtain ⟨i3, d3, a3, e3⟩ := s3
    simp only at he3 cb fb hbl
    subst he3
    obtain ⟨cv, fv⟩ := HV5.out.facts
    have hvl := HV5.out.lt
    have HRz := Lib.hid (setRow_heap W5 w.heap.size _ #[.int .i64 xk, .int .i64 xo, .string xs, .string xt, .int .i64 xn, .slice xla xln xlc, .int .i64 0, .string ⟨#[]⟩, .string ⟨#[]⟩, .string ⟨#[]⟩, .int .i64 0, .int .i64 0, .slice none 0 0, .bool false, .bool false, .slice none 0 0, .slice none 0 0, .slice none 0 0, .slice none 0 0, .pointer none, .pointer none, .slice none 0 0, .slice none 0 0, .int .i64 0, .int .i64 0, .int .i64 0, .int .i64 0] _ _ HR5.out)
    have HPz := Lib.hid (toldPost_row HX5.out (HT5.out.mono fun g h _ => h.1) #[.int .i64 xk, .int .i64 xo, .string xs, .string xt, .int .i64 xn, .slice xla xln xlc, .int .i64 0, .string ⟨#[]⟩, .string ⟨#[]⟩, .string ⟨#[]⟩, .int .i64 0, .int .i64 0, .slice none 0 0, .bool false, .bool false, .slice none 0 0, .slice none 0 0, .slice none 0 0, .slice none 0 0, .pointer none, .pointer none, .slice none 0 0, .slice none 0 0, .int .i64 0, .int .i64 0, .int .i64 0, .int .i64 0] rfl)
    go_wp2_with (first
     | (refine wpList_store_row rfl 58 (.tmp 2) (.tmp 48) rfl w.heap.size #[.int .i64 xk, .int .i64 xo, .string xs, .string xt, .int .i64 xn, .slice xla xln xlc, .int .i64 0, .string ⟨#[]⟩, .string ⟨#[]⟩, .string ⟨#[]⟩, .int .i64 0, .int .i64 0, .slice none 0 0, .bool false, .bool false, .slice none 0 0, .slice none 0 0, .slice none 0 0, .slice none 0 0, .pointer none, .pointer none, .slice none 0 0, .slice none 0 0, .int .i64 0, .int .i64 0, .int .i64 0, .int .i64 0] rfl rfl 58 #[.int .i64 0, .int .i64 0, .string ⟨#[]⟩, .string ⟨#[]⟩, .int .i64 0, .slice none 0 0, .int .i64 0, .string ⟨#[]⟩, .string ⟨#[]⟩, .string ⟨#[]⟩, .int .i64 0, .int .i64 0, .slice none 0 0, .bool false, .bool false, .slice none 0 0, .slice none 0 0, .slice none 0 0, .slice none 0 0, .pointer none, .pointer none, .slice none 0 0, .slice none 0 0, .int .i64 0, .int .i64 0, .int .i64 0, .int .i64 0] HR5.out infoTold rfl (by simp [Value.oneCell']) ?_; generalize W5.setRow w.heap.size #[.int .i64 xk, .int .i64 xo, .string xs, .string xt, .int .i64 xn, .slice xla xln xlc, .int .i64 0, .string ⟨#[]⟩, .string ⟨#[]⟩, .string ⟨#[]⟩, .int .i64 0, .int .i64 0, .slice none 0 0, .bool false, .bool false, .slice none 0 0, .slice none 0 0, .slice none 0 0, .slice none 0 0, .pointer none, .pointer none, .slice none 0 0, .slice none 0 0, .int .i64 0, .int .i64 0, .int .i64 0, .int .i64 0] = Wz at HRz HPz ⊢)
     | (refine bodyPost_ret (ret_told rfl _ rfl rfl HRz.out) rfl ?_))
    exact HPz.out
   ·have HR' := HRe.out
    rw [if_pos he3] at HR'
    obtain ⟨rfl, hr2⟩ := Prod.mk.inj HR'
    obtain ⟨rfl, rfl⟩ := Prod.mk.inj hr2
    clear HR' hr2 HRe
    obtain ⟨i3, d3, a3, e3⟩ := s3
    simp only at he3 cb fb hbl ⊢
    have heb : (e3 != 0) = true := by simpa [bne] using he3
    go_upto_region 8 with (fail)
    have HF := Lib.hid (show ∀ W, Ext W5 W → (∀ j, W.cell? ⟨p, j, none⟩ = (#[.slice (psA g T.length) T.length c, .int .i64 i3, .int .i64 e3, .int .i64 a3, .int .i64 d3, .int .i64 s.size] : Array Value)[j]?) from fun W hW => (HP5.out.blk.keep hW).cell)
    refine wp_parZF [] (leX) [0, 1, 2, 3, 4, 5, 6, 7, 8, 9] 9 9 (fun
     | 0 => fun _ v _ => v = .pointer (some ⟨p, 0, none⟩)
     | 1 => fun _ v _ => v = .pointer (some ⟨p, 0, none⟩)
     | 2 => fun _ v _ => v = .pointer (some ⟨p, 3, none⟩)
     | 3 => fun _ v _ => v = .int .i64 a3
     | 4 => fun _ v _ => v = .pointer (some ⟨p, 0, none⟩)
     | 5 => fun _ v _ => v = .pointer (some ⟨p, 0, none⟩)
     | 6 => fun _ v _ => v = .pointer (some ⟨p, 2, none⟩)
     | 7 => fun _ v _ => v = .int .i64 e3
     | 8 => fun _ v _ => v = .agg #[.int .i64 0, .int .i64 0, .string ⟨#[]⟩, .string ⟨#[]⟩, .int .i64 0, .slice none 0 0, .int .i64 0, .string ⟨#[]⟩, .string ⟨#[]⟩, .string ⟨#[]⟩, .int .i64 0, .int .i64 0, .slice none 0 0, .bool false, .bool false, .slice none 0 0, .slice none 0 0, .slice none 0 0, .slice none 0 0, .pointer none, .pointer none, .slice none 0 0, .slice none 0 0, .int .i64 0, .int .i64 0, .int .i64 a3, .int .i64 e3]
     | _ => fun _ _ _ => True) (fun
     | _ => undef) (by kernel_rfl) (by kernel_rfl) (by kernel_rfl) ?_ ?_ ?_ ?_ ?_
    ·simp (maxSteps := 20000000) only [permL, permOp, List.filterMap_cons, List.filterMap_nil, List.getElem?_cons_succ, List.getElem?_cons_zero, Option.map_some, Option.map_none, List.take_succ_cons, List.take_zero, ParAllG, Act.put, List.setIfInBounds_toArray, List.set_cons_succ, List.set_cons_zero]
     refine ⟨?_, ?_, ?_, ?_, ?_, ?_, ?_, ?_, ?_, trivial⟩
     all_goals
      intro vals W hx hd
      have hW := HF.out W hx
      simp [PDepsG, pdeps, Region.binds, List.idxOf_cons] at hd
      first
       | refine ParObG.plain rfl ?_
       | refine ParObG.wanted (by simp [Region.wanted, yielded, hd]) ?_
     iterate 9
      next =>
       go_simp
       exact ParPostG.same (leX) fun _ _ => rfl
    ·simp (maxSteps := 20000000) only [permL, permOp, List.filterMap_cons, List.filterMap_nil, List.getElem?_cons_succ, List.getElem?_cons_zero, Option.map_some, Option.map_none, List.drop_succ_cons, List.drop_zero, List.take_succ_cons, List.take_zero, Nat.reduceSub, ZAll, ParEnd, Act.put, List.setIfInBounds_toArray, List.set_cons_succ, List.set_cons_zero]
    ·intro i hi
     cases hi
    ·intro i hi
     cases hi
    intro vals W hx hf hz hdist
    simp (maxSteps := 20000000) only [permL, permOp, List.filterMap_cons, List.filterMap_nil, List.getElem?_cons_succ, List.getElem?_cons_zero, Option.map_some, Option.map_none, ParFactsG, List.take_succ_cons, List.take_zero, and_true, Nat.reduceAdd] at hf
    obtain ⟨f0, f1, f2, f3, f4, f5, f6, f7, f8⟩ := hf
    clear hz
    simp (maxSteps := 20000000) only [permL, permOp, List.filterMap_cons, List.filterMap_nil, List.getElem?_cons_succ, List.getElem?_cons_zero, Option.map_some, Option.map_none, List.drop_succ_cons, List.drop_zero, List.take_succ_cons, List.take_zero, Nat.reduceSub, ParEnd, ZTail, Act.put, List.setIfInBounds_toArray, List.set_cons_succ, List.set_cons_zero, Nat.reduceAdd, f0, f1, f2, f3, f4, f5, f6, f7, f8]
    clear f0 f1 f2 f3 f4 f5 f6 f7 f8
    have HRz := Lib.hid (setRow_heap W w.heap.size _ #[.int .i64 0, .int .i64 0, .string ⟨#[]⟩, .string ⟨#[]⟩, .int .i64 0, .slice none 0 0, .int .i64 0, .string ⟨#[]⟩, .string ⟨#[]⟩, .string ⟨#[]⟩, .int .i64 0, .int .i64 0, .slice none 0 0, .bool false, .bool false, .slice none 0 0, .slice none 0 0, .slice none 0 0, .slice none 0 0, .pointer none, .pointer none, .slice none 0 0, .slice none 0 0, .int .i64 0, .int .i64 0, .int .i64 a3, .int .i64 e3] _ _ (HR5.out.keep hx))
    have HPz := Lib.hid (toldPost_row (Ext.trans HX5.out hx) (TrAt.leaf (A := (w.heap.size < ·)) (w := W) 0 0 [] [] 0) #[.int .i64 0, .int .i64 0, .string ⟨#[]⟩, .string ⟨#[]⟩, .int .i64 0, .slice none 0 0, .int .i64 0, .string ⟨#[]⟩, .string ⟨#[]⟩, .string ⟨#[]⟩, .int .i64 0, .int .i64 0, .slice none 0 0, .bool false, .bool false, .slice none 0 0, .slice none 0 0, .slice none 0 0, .slice none 0 0, .pointer none, .pointer none, .slice none 0 0, .slice none 0 0, .int .i64 0, .int .i64 0, .int .i64 a3, .int .i64 e3] rfl)
    refine ⟨?_⟩
    refine yields_storeT (g := w.heap.size) (cs := #[.int .i64 0, .int .i64 0, .string ⟨#[]⟩, .string ⟨#[]⟩, .int .i64 0, .slice none 0 0, .int .i64 0, .string ⟨#[]⟩, .string ⟨#[]⟩, .string ⟨#[]⟩, .int .i64 0, .int .i64 0, .slice none 0 0, .bool false, .bool false, .slice none 0 0, .slice none 0 0, .slice none 0 0, .slice none 0 0, .pointer none, .pointer none, .slice none 0 0, .slice none 0 0, .int .i64 0, .int .i64 0, .int .i64 a3, .int .i64 e3]) rfl (by simp [Act.eval]) (by simp [Act.eval]) (HR5.out.keep hx) rfl rfl (by simp [Value.oneCell']) ?_
    generalize W.setRow w.heap.size #[.int .i64 0, .int .i64 0, .string ⟨#[]⟩, .string ⟨#[]⟩, .int .i64 0, .slice none 0 0, .int .i64 0, .string ⟨#[]⟩, .string ⟨#[]⟩, .string ⟨#[]⟩, .int .i64 0, .int .i64 0, .slice none 0 0, .bool false, .bool false, .slice none 0 0, .slice none 0 0, .slice none 0 0, .slice none 0 0, .pointer none, .pointer none, .slice none 0 0, .slice none 0 0, .int .i64 0, .int .i64 0, .int .i64 a3, .int .i64 e3] = Wz at HRz HPz ⊢
    go_simp
    repeat (first | go_values | go_skip | go_guarded | go_step | go_upon)
    refine bodyPost_ret (ret_told rfl _ rfl rfl HRz.out) rfl ?_
    exact HPz.out
 ·have HR' := HR.out
  rw [if_pos her] at HR'
  obtain ⟨rfl, hr2⟩ := Prod.mk.inj HR'
  obtain ⟨rfl, rfl⟩ := Prod.mk.inj hr2
  have herb : (E != 0) = true := by simpa [bne] using her
  have HRz := Lib.hid (setRow_heap W2 w.heap.size _ #[.int .i64 0, .int .i64 0, .string ⟨#[]⟩, .string ⟨#[]⟩, .int .i64 0, .slice none 0 0, .int .i64 0, .string ⟨#[]⟩, .string ⟨#[]⟩, .string ⟨#[]⟩, .int .i64 0, .int .i64 0, .slice none 0 0, .bool false, .bool false, .slice none 0 0, .slice none 0 0, .slice none 0 0, .slice none 0 0, .pointer none, .pointer none, .slice none 0 0, .slice none 0 0, .int .i64 0, .int .i64 0, .int .i64 A, .int .i64 E] _ _ HR2.out)
  have HPz := Lib.hid (toldPost_row HX2.out (TrAt.leaf (A := (w.heap.size < ·)) (w := W2) 0 0 [] [] 0) #[.int .i64 0, .int .i64 0, .string ⟨#[]⟩, .string ⟨#[]⟩, .int .i64 0, .slice none 0 0, .int .i64 0, .string ⟨#[]⟩, .string ⟨#[]⟩, .string ⟨#[]⟩, .int .i64 0, .int .i64 0, .slice none 0 0, .bool false, .bool false, .slice none 0 0, .slice none 0 0, .slice none 0 0, .slice none 0 0, .pointer none, .pointer none, .slice none 0 0, .slice none 0 0, .int .i64 0, .int .i64 0, .int .i64 A, .int .i64 E] rfl)
  clear HR' hr2 HR
  go_wp2_with (first
   | (refine wpList_store_row rfl 58 (.tmp 2) (.tmp 18) rfl w.heap.size #[.int .i64 0, .int .i64 0, .string ⟨#[]⟩, .string ⟨#[]⟩, .int .i64 0, .slice none 0 0, .int .i64 0, .string ⟨#[]⟩, .string ⟨#[]⟩, .string ⟨#[]⟩, .int .i64 0, .int .i64 0, .slice none 0 0, .bool false, .bool false, .slice none 0 0, .slice none 0 0, .slice none 0 0, .slice none 0 0, .pointer none, .pointer none, .slice none 0 0, .slice none 0 0, .int .i64 0, .int .i64 0, .int .i64 A, .int .i64 E] rfl rfl 58 #[.int .i64 0, .int .i64 0, .string ⟨#[]⟩, .string ⟨#[]⟩, .int .i64 0, .slice none 0 0, .int .i64 0, .string ⟨#[]⟩, .string ⟨#[]⟩, .string ⟨#[]⟩, .int .i64 0, .int .i64 0, .slice none 0 0, .bool false, .bool false, .slice none 0 0, .slice none 0 0, .slice none 0 0, .slice none 0 0, .pointer none, .pointer none, .slice none 0 0, .slice none 0 0, .int .i64 0, .int .i64 0, .int .i64 0, .int .i64 0] HR2.out infoTold rfl (by simp [Value.oneCell']) ?_; generalize W2.setRow w.heap.size #[.int .i64 0, .int .i64 0, .string ⟨#[]⟩, .string ⟨#[]⟩, .int .i64 0, .slice none 0 0, .int .i64 0, .string ⟨#[]⟩, .string ⟨#[]⟩, .string ⟨#[]⟩, .int .i64 0, .int .i64 0, .slice none 0 0, .bool false, .bool false, .slice none 0 0, .slice none 0 0, .slice none 0 0, .slice none 0 0, .pointer none, .pointer none, .slice none 0 0, .slice none 0 0, .int .i64 0, .int .i64 0, .int .i64 A, .int .i64 E] = Wz at HRz HPz ⊢)
   | (refine bodyPost_ret (ret_told rfl _ rfl rfl HRz.out) rfl ?_))
  exact HPz.out
end Go.Proofs.YtcgbpmeadohbkaaGreatDoor
