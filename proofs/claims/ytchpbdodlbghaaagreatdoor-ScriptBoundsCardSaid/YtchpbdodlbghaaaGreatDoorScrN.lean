import Derived.Test.YtchpbdodlbghaaaGreatDoorScrH
import Derived.Test.YtchpbdodlbghaaaGreatDoorScrM
namespace Go.Proofs.YtchpbdodlbghaaaGreatDoor
open Go.RowKit Go.Lib
set_option maxRecDepth 100000

def doA : Array Value := #[.nilFunc, .func (.func 51) #[] #[], .func (.func 52) #[] #[], .func (.func 53) #[] #[], .func (.func 54) #[] #[], .func (.func 54) #[] #[], .func (.func 55) #[] #[], .func (.func 56) #[] #[], .func (.func 56) #[] #[], .func (.func 57) #[] #[]]
theorem ret_doi {t : Tmp} {fn : Func} (h : fn.results = #[.cell t 107]) (tmps : Array Value) {w : World} {g : Nat} {cs : Array Value} (hc : cs.size = 10) (hp : tmps.getD t undef = .pointer (some ⟨g, 0, none⟩)) (hg : Blk w g cs 107) :
    (results fn tmps).run Tryz.prog w = .ok (.agg cs) w := by
  have hp' : tmps[t]?.getD undef = .pointer (some ⟨g, 0, none⟩) := by simpa using hp
  have hr := run_loadVar_row w g 107 107 cs (0, 0) _ hg Tryz.underlying107 rfl (by rw [hc]; kernel_rfl)
  simp [results, h, hp', asAddr, hr]
theorem infoDoi : (Tryz.prog.info? 107).map (·.size) = some 10 := by kernel_rfl
set_option maxHeartbeats 2000000 in
theorem doings_any (w : World) : Calls Tryz.prog 35 #[] w fun e w' => e = .returned (.agg doA) ∧ Below w.heap.size w w' := by
  go_enter Tryz.func35, Tryz.ntmps35
  go_wp2_with (refine wpList_store_row rfl 107 (.tmp 0) (.tmp 1) rfl w.heap.size doA rfl rfl 107 #[.nilFunc, .nilFunc, .nilFunc, .nilFunc, .nilFunc, .nilFunc, .nilFunc, .nilFunc, .nilFunc, .nilFunc] (Blk.new w _ _ rfl) infoDoi rfl (by simp [doA, Value.oneCell']) ?_)
  rw [World.setRow_alloc_new]
  refine bodyPost_ret (ret_doi rfl _ rfl rfl (Blk.new w _ _ rfl)) rfl ?_
  exact ⟨rfl, by go_grown⟩
theorem yields_loadRow {P : Program} {w : World} {o : Oper} {ρ : Operand → Value} {Y : Value → World → Prop} (ty : TypeId) (x : Operand) (ho : o.op = .load ty x) (g : Nat) (hx : ρ x = .pointer (some ⟨g, 0, none⟩)) (t : TypeId) (cs : Array Value) (d : TypeDesc) (hg : Blk w g cs t)
    (hu : P.underlying ty = some d) (hd : (match d with | .struct _ | .array _ _ => true | _ => false) = true) (hi : (P.info? ty).map (·.size) = some cs.size) (h : Y (.agg cs) w) : yields P o ρ w Y := by
  unfold yields execOp
  simp only [ho, hx, Instr.loadAt, Instr.sureAddr, Sem.run_bind, Sem.run_pure, Result.andThen_ok, run_loadVar_row w g t ty cs (0, 0) d hg hu hd hi]
  exact h
def DoPost (at_ er : Int) (w : World) (e : Ending) (w' : World) : Prop := e = .returned (.tuple #[.agg #[.slice none 0 0, .slice none 0 0, .int .i64 0], .int .i64 at_, .int .i64 er]) ∧ Below w.heap.size w w'
set_option maxHeartbeats 4000000 in
theorem do_zz (gg : Nat) (w : World) (hG : ∀ W, Ext w W → GlobL W) : Calls Tryz.prog 20 #[.pointer (some ⟨gg, 0, none⟩), .string ⟨#[122, 122]⟩] w (DoPost 0 10 w) := by
  have hx0 : Ext w (w.alloc (.cells #[.slice none 0 0, .slice none 0 0, .int .i64 0] 60)) := (Ext.refl w).alloc _
  have KS := Lib.hid (stmt_zz (w.alloc (.cells #[.slice none 0 0, .slice none 0 0, .int .i64 0] 60)) (hG _ hx0))
  have HX0 := Lib.hid hx0
  have HR0 := Lib.hid (Blk.new w #[.slice none 0 0, .slice none 0 0, .int .i64 0] 60 rfl)
  clear hG hx0
  go_enter Tryz.func20, Tryz.ntmps20
  go_simp
  repeat (first | go_values | go_skip | go_guarded | go_step | go_upon)
  refine KS.out.mono ?_
  rintro e w1 ⟨rfl, hb1⟩
  have HX1 := Lib.hid (HX0.out.trans hb1)
  have HR1 := Lib.hid (HR0.out.keep hb1)
  clear hb1 HX0 HR0 KS
  have hxa : Ext w1 (w1.alloc (.cells #[.int .i64 0, .string ⟨#[]⟩, .string ⟨#[]⟩, .string ⟨#[]⟩, .int .i64 0, .int .i64 0, .slice none 0 0, .bool false, .bool false, .slice none 0 0, .slice none 0 0, .slice none 0 0, .slice none 0 0, .pointer none, .pointer none, .slice none 0 0, .slice none 0 0, .int .i64 0, .int .i64 0] 102)) := (Ext.refl w1).alloc _
  have HSa := Lib.hid (Blk.new w1 #[.int .i64 0, .string ⟨#[]⟩, .string ⟨#[]⟩, .string ⟨#[]⟩, .int .i64 0, .int .i64 0, .slice none 0 0, .bool false, .bool false, .slice none 0 0, .slice none 0 0, .slice none 0 0, .slice none 0 0, .pointer none, .pointer none, .slice none 0 0, .slice none 0 0, .int .i64 0, .int .i64 0] 102 rfl)
  have HRa := Lib.hid (HR1.out.keep hxa)
  have HXa := Lib.hid (HX1.out.trans hxa)
  have hws : w.heap.size < w1.heap.size := HR1.out.lt
  have hle : w.heap.size ≤ w1.heap.size := Nat.le_of_lt hws
  clear hxa HX1 HR1
  go_upto_region 2 with (generalize w1.alloc (.cells #[.int .i64 0, .string ⟨#[]⟩, .string ⟨#[]⟩, .string ⟨#[]⟩, .int .i64 0, .int .i64 0, .slice none 0 0, .bool false, .bool false, .slice none 0 0, .slice none 0 0, .slice none 0 0, .slice none 0 0, .pointer none, .pointer none, .slice none 0 0, .slice none 0 0, .int .i64 0, .int .i64 0] 102) = Wa at HSa HRa HXa ⊢; refine wpList_store_row rfl 102 (.tmp 7) (.tmp 11) rfl w1.heap.size #[.int .i64 0, .string ⟨#[]⟩, .string ⟨#[]⟩, .string ⟨#[]⟩, .int .i64 0, .int .i64 0, .slice none 0 0, .bool false, .bool false, .slice none 0 0, .slice none 0 0, .slice none 0 0, .slice none 0 0, .pointer none, .pointer none, .slice none 0 0, .slice none 0 0, .int .i64 0, .int .i64 0] rfl rfl 102 #[.int .i64 0, .string ⟨#[]⟩, .string ⟨#[]⟩, .string ⟨#[]⟩, .int .i64 0, .int .i64 0, .slice none 0 0, .bool false, .bool false, .slice none 0 0, .slice none 0 0, .slice none 0 0, .slice none 0 0, .pointer none, .pointer none, .slice none 0 0, .slice none 0 0, .int .i64 0, .int .i64 0] HSa.out infoSt rfl (by simp [Value.oneCell']) ?_)
  have HR2 := Lib.hid (show Blk (Wa.setRow w1.heap.size #[.int .i64 0, .string ⟨#[]⟩, .string ⟨#[]⟩, .string ⟨#[]⟩, .int .i64 0, .int .i64 0, .slice none 0 0, .bool false, .bool false, .slice none 0 0, .slice none 0 0, .slice none 0 0, .slice none 0 0, .pointer none, .pointer none, .slice none 0 0, .slice none 0 0, .int .i64 0, .int .i64 0]) w.heap.size #[.slice none 0 0, .slice none 0 0, .int .i64 0] 60 from (setRow_other Wa w1.heap.size w.heap.size #[.int .i64 0, .string ⟨#[]⟩, .string ⟨#[]⟩, .string ⟨#[]⟩, .int .i64 0, .int .i64 0, .slice none 0 0, .bool false, .bool false, .slice none 0 0, .slice none 0 0, .slice none 0 0, .slice none 0 0, .pointer none, .pointer none, .slice none 0 0, .slice none 0 0, .int .i64 0, .int .i64 0] (Nat.ne_of_lt hws)).trans HRa.out)
  have HX2 := Lib.hid (below_row HXa.out hle #[.int .i64 0, .string ⟨#[]⟩, .string ⟨#[]⟩, .string ⟨#[]⟩, .int .i64 0, .int .i64 0, .slice none 0 0, .bool false, .bool false, .slice none 0 0, .slice none 0 0, .slice none 0 0, .slice none 0 0, .pointer none, .pointer none, .slice none 0 0, .slice none 0 0, .int .i64 0, .int .i64 0])
  generalize Wa.setRow w1.heap.size #[.int .i64 0, .string ⟨#[]⟩, .string ⟨#[]⟩, .string ⟨#[]⟩, .int .i64 0, .int .i64 0, .slice none 0 0, .bool false, .bool false, .slice none 0 0, .slice none 0 0, .slice none 0 0, .slice none 0 0, .pointer none, .pointer none, .slice none 0 0, .slice none 0 0, .int .i64 0, .int .i64 0] = W2 at HR2 HX2 ⊢
  clear HSa HRa HXa
  go_wp2_with (refine wpList_store_row rfl 60 (.tmp 4) (.tmp 16) rfl w.heap.size #[.slice none 0 0, .slice none 0 0, .int .i64 0] rfl rfl 60 #[.slice none 0 0, .slice none 0 0, .int .i64 0] HR2.out infoRes rfl (by simp [Value.oneCell']) ?_)
  refine bodyPost_ret (ret_res3 rfl _ rfl rfl (setRow_heap _ w.heap.size #[.slice none 0 0, .slice none 0 0, .int .i64 0] #[.slice none 0 0, .slice none 0 0, .int .i64 0] _ _ HR2.out)) rfl ?_
  exact ⟨rfl, below_row HX2.out (Nat.le_refl _) #[.slice none 0 0, .slice none 0 0, .int .i64 0]⟩
def anyW (_ : Value) (_ : World) : Prop := True
theorem ext_same {W : World} {r : Nat} (hb : Blk W r #[.slice none 0 0, .slice none 0 0, .int .i64 0] 60) : Ext W (((W.setCell ⟨r, 0, none⟩ (.slice none 0 0)).setCell ⟨r, 1, none⟩ (.slice none 0 0)).setCell ⟨r, 2, none⟩ (.int .i64 0)) :=
  ⟨rfl, rfl, rfl, by simp, fun i _ => by
    by_cases h : i = r
    · subst h
      exact (show Blk _ i #[.slice none 0 0, .slice none 0 0, .int .i64 0] 60 from ((hb.set 0 (.slice none 0 0)).set 1 (.slice none 0 0)).set 2 (.int .i64 0)).trans hb.symm
    · exact (heap_setCell_other _ ⟨r, 2, none⟩ i _ h).trans ((heap_setCell_other _ ⟨r, 1, none⟩ i _ h).trans (heap_setCell_other _ ⟨r, 0, none⟩ i _ h))⟩
def isTup (v : Value) (_ : World) : Prop := v = .tuple #[.agg #[.slice none 0 0, .slice none 0 0, .int .i64 0], .int .i64 0, .int .i64 0]
def isRes (v : Value) (_ : World) : Prop := v = .agg #[.slice none 0 0, .slice none 0 0, .int .i64 0]
def DoPostC (M1 : Nat) (w : World) (e : Ending) (w' : World) : Prop := e = .returned (.tuple #[.agg #[.slice none 0 0, .slice none 0 0, .int .i64 0], .int .i64 0, .int .i64 0]) ∧ LeP M1 w w'
set_option maxHeartbeats 8000000 in
theorem do_ct (gg d q M1 M2 : Nat) (r b f p : Int) (w : World) (hE : Blk w gg #[.int .i64 r, .int .i64 b, .int .i64 f, .int .i64 p, .pointer (some ⟨d, 0, none⟩), .pointer (some ⟨q, 0, none⟩)] 51)
    (hD : Blk w d #[.int .i64 f, .map (some M1), .map (some M2)] 72) (hGM : GMap Tryz.prog 282 w M1 []) (hR : RegAt w q) (hgM : gg ≠ M1) (hdM : d ≠ M1) (hT : ∀ W, Ext w W → Lib.Utf8Tabs 1 2 W) (hG : ∀ W, Ext w W → GlobL W) :
    Calls Tryz.prog 20 #[.pointer (some ⟨gg, 0, none⟩), .string ⟨ctL.toArray⟩] w (DoPostC M1 w) := by
  have hx0 : Ext w (w.alloc (.cells #[.slice none 0 0, .slice none 0 0, .int .i64 0] 60)) := (Ext.refl w).alloc _
  have KS := Lib.hid (stmt_ct (w.alloc (.cells #[.slice none 0 0, .slice none 0 0, .int .i64 0] 60)) (hG _ hx0))
  have HX0 := Lib.hid hx0
  have HR0 := Lib.hid (Blk.new w #[.slice none 0 0, .slice none 0 0, .int .i64 0] 60 rfl)
  have HZ0 := Lib.hid (show w.heap.size < (w.alloc (.cells #[.slice none 0 0, .slice none 0 0, .int .i64 0] 60)).heap.size by simp)
  have hML := hGM.lt
  have KT := Lib.hid (fun gc cp W (hW : Ext w W) (hC : PColAt W gc) (hn : gc ≠ M1) => engTable_ct gg d q M1 M2 gc cp r b f p W (hE.keep hW) (hD.keep hW) (hGM.keep hW) (hR.ext hW) hC hgM hdM hn (fun V hV => hT V (Ext.trans hW hV)))
  clear hG hx0 hE hD hGM hR hT
  go_enter Tryz.func20, Tryz.ntmps20
  go_simp
  repeat (first | go_values | go_skip | go_guarded | go_step | go_upon)
  refine KS.out.mono ?_
  rintro e w1 ⟨gc, cp, cur, rfl, hgc, hbc, htk, hb1⟩
  have hgcM : gc ≠ M1 := by have := HZ0.out; omega
  have hxa : Ext w1 (w1.alloc (.cells #[.int .i64 0, .string ⟨#[]⟩, .string ⟨#[]⟩, .string ⟨#[]⟩, .int .i64 0, .int .i64 0, .slice none 0 0, .bool false, .bool false, .slice none 0 0, .slice none 0 0, .slice none 0 0, .slice none 0 0, .pointer none, .pointer none, .slice none 0 0, .slice none 0 0, .int .i64 0, .int .i64 0] 102)) := (Ext.refl w1).alloc _
  have HXa := Lib.hid (Ext.trans (HX0.out.trans hb1) hxa)
  have HRa := Lib.hid ((HR0.out.keep hb1).keep hxa)
  have HCa := Lib.hid (show Blk (w1.alloc (.cells #[.int .i64 0, .string ⟨#[]⟩, .string ⟨#[]⟩, .string ⟨#[]⟩, .int .i64 0, .int .i64 0, .slice none 0 0, .bool false, .bool false, .slice none 0 0, .slice none 0 0, .slice none 0 0, .slice none 0 0, .pointer none, .pointer none, .slice none 0 0, .slice none 0 0, .int .i64 0, .int .i64 0] 102)) gc cur 175 from hbc.keep hxa)
  have HTk := Lib.hid htk
  have HSa := Lib.hid (Blk.new w1 #[.int .i64 0, .string ⟨#[]⟩, .string ⟨#[]⟩, .string ⟨#[]⟩, .int .i64 0, .int .i64 0, .slice none 0 0, .bool false, .bool false, .slice none 0 0, .slice none 0 0, .slice none 0 0, .slice none 0 0, .pointer none, .pointer none, .slice none 0 0, .slice none 0 0, .int .i64 0, .int .i64 0] 102 rfl)
  have hws : w.heap.size < w1.heap.size := (HR0.out.keep hb1).lt
  have hgl : gc < w1.heap.size := hbc.lt
  have hsM : w1.heap.size ≠ M1 := by omega
  have hrM : w.heap.size ≠ M1 := by omega
  clear hxa hb1 hbc htk HX0 HR0 KS
  unfold ctV
  go_upto_region 2 with (generalize w1.alloc (.cells #[.int .i64 0, .string ⟨#[]⟩, .string ⟨#[]⟩, .string ⟨#[]⟩, .int .i64 0, .int .i64 0, .slice none 0 0, .bool false, .bool false, .slice none 0 0, .slice none 0 0, .slice none 0 0, .slice none 0 0, .pointer none, .pointer none, .slice none 0 0, .slice none 0 0, .int .i64 0, .int .i64 0] 102) = Wa at HSa HRa HXa HCa ⊢; refine wpList_store_row rfl 102 (.tmp 7) (.tmp 11) rfl w1.heap.size #[.int .i64 2, .string ⟨#[116]⟩, .string ⟨#[]⟩, .string ⟨#[]⟩, .int .i64 0, .int .i64 0, .slice (some ⟨gc, 0, none⟩) 1 cp, .bool false, .bool false, .slice none 0 0, .slice none 0 0, .slice none 0 0, .slice none 0 0, .pointer none, .pointer none, .slice none 0 0, .slice none 0 0, .int .i64 0, .int .i64 0] rfl rfl 102 #[.int .i64 0, .string ⟨#[]⟩, .string ⟨#[]⟩, .string ⟨#[]⟩, .int .i64 0, .int .i64 0, .slice none 0 0, .bool false, .bool false, .slice none 0 0, .slice none 0 0, .slice none 0 0, .slice none 0 0, .pointer none, .pointer none, .slice none 0 0, .slice none 0 0, .int .i64 0, .int .i64 0] HSa.out infoSt rfl (by simp [Value.oneCell']) ?_)
  have HR2 := Lib.hid (show Blk (Wa.setRow w1.heap.size #[.int .i64 2, .string ⟨#[116]⟩, .string ⟨#[]⟩, .string ⟨#[]⟩, .int .i64 0, .int .i64 0, .slice (some ⟨gc, 0, none⟩) 1 cp, .bool false, .bool false, .slice none 0 0, .slice none 0 0, .slice none 0 0, .slice none 0 0, .pointer none, .pointer none, .slice none 0 0, .slice none 0 0, .int .i64 0, .int .i64 0]) w.heap.size #[.slice none 0 0, .slice none 0 0, .int .i64 0] 60 from (setRow_other Wa w1.heap.size w.heap.size #[.int .i64 2, .string ⟨#[116]⟩, .string ⟨#[]⟩, .string ⟨#[]⟩, .int .i64 0, .int .i64 0, .slice (some ⟨gc, 0, none⟩) 1 cp, .bool false, .bool false, .slice none 0 0, .slice none 0 0, .slice none 0 0, .slice none 0 0, .pointer none, .pointer none, .slice none 0 0, .slice none 0 0, .int .i64 0, .int .i64 0] (by omega)).trans HRa.out)
  have HX2 := Lib.hid (show Ext w (Wa.setRow w1.heap.size #[.int .i64 2, .string ⟨#[116]⟩, .string ⟨#[]⟩, .string ⟨#[]⟩, .int .i64 0, .int .i64 0, .slice (some ⟨gc, 0, none⟩) 1 cp, .bool false, .bool false, .slice none 0 0, .slice none 0 0, .slice none 0 0, .slice none 0 0, .pointer none, .pointer none, .slice none 0 0, .slice none 0 0, .int .i64 0, .int .i64 0]) from below_row HXa.out (by omega) #[.int .i64 2, .string ⟨#[116]⟩, .string ⟨#[]⟩, .string ⟨#[]⟩, .int .i64 0, .int .i64 0, .slice (some ⟨gc, 0, none⟩) 1 cp, .bool false, .bool false, .slice none 0 0, .slice none 0 0, .slice none 0 0, .slice none 0 0, .pointer none, .pointer none, .slice none 0 0, .slice none 0 0, .int .i64 0, .int .i64 0])
  have HC2 := Lib.hid (show PColAt (Wa.setRow w1.heap.size #[.int .i64 2, .string ⟨#[116]⟩, .string ⟨#[]⟩, .string ⟨#[]⟩, .int .i64 0, .int .i64 0, .slice (some ⟨gc, 0, none⟩) 1 cp, .bool false, .bool false, .slice none 0 0, .slice none 0 0, .slice none 0 0, .slice none 0 0, .pointer none, .pointer none, .slice none 0 0, .slice none 0 0, .int .i64 0, .int .i64 0]) gc from ⟨cur, (setRow_other Wa w1.heap.size gc #[.int .i64 2, .string ⟨#[116]⟩, .string ⟨#[]⟩, .string ⟨#[]⟩, .int .i64 0, .int .i64 0, .slice (some ⟨gc, 0, none⟩) 1 cp, .bool false, .bool false, .slice none 0 0, .slice none 0 0, .slice none 0 0, .slice none 0 0, .pointer none, .pointer none, .slice none 0 0, .slice none 0 0, .int .i64 0, .int .i64 0] (by omega)).trans HCa.out, HTk.out⟩)
  have HS2 := Lib.hid (show Blk (Wa.setRow w1.heap.size #[.int .i64 2, .string ⟨#[116]⟩, .string ⟨#[]⟩, .string ⟨#[]⟩, .int .i64 0, .int .i64 0, .slice (some ⟨gc, 0, none⟩) 1 cp, .bool false, .bool false, .slice none 0 0, .slice none 0 0, .slice none 0 0, .slice none 0 0, .pointer none, .pointer none, .slice none 0 0, .slice none 0 0, .int .i64 0, .int .i64 0]) w1.heap.size #[.int .i64 2, .string ⟨#[116]⟩, .string ⟨#[]⟩, .string ⟨#[]⟩, .int .i64 0, .int .i64 0, .slice (some ⟨gc, 0, none⟩) 1 cp, .bool false, .bool false, .slice none 0 0, .slice none 0 0, .slice none 0 0, .slice none 0 0, .pointer none, .pointer none, .slice none 0 0, .slice none 0 0, .int .i64 0, .int .i64 0] 102 from setRow_heap Wa _ _ _ _ _ HSa.out)
  generalize Wa.setRow w1.heap.size #[.int .i64 2, .string ⟨#[116]⟩, .string ⟨#[]⟩, .string ⟨#[]⟩, .int .i64 0, .int .i64 0, .slice (some ⟨gc, 0, none⟩) 1 cp, .bool false, .bool false, .slice none 0 0, .slice none 0 0, .slice none 0 0, .slice none 0 0, .pointer none, .pointer none, .slice none 0 0, .slice none 0 0, .int .i64 0, .int .i64 0] = W2 at HR2 HX2 HC2 HS2 ⊢
  clear HSa HRa HXa HCa
  go_upto_region 4 with (fail)
  have HF := Lib.hid (show ∀ W, LeP M1 W2 W → ∀ o, W.cell? ⟨w1.heap.size, o, none⟩ = (#[.int .i64 2, .string ⟨#[116]⟩, .string ⟨#[]⟩, .string ⟨#[]⟩, .int .i64 0, .int .i64 0, .slice (some ⟨gc, 0, none⟩) 1 cp, .bool false, .bool false, .slice none 0 0, .slice none 0 0, .slice none 0 0, .slice none 0 0, .pointer none, .pointer none, .slice none 0 0, .slice none 0 0, .int .i64 0, .int .i64 0] : Array Value)[o]? from fun W hW => (hW.blk HS2.out hsM).cell)
  refine wp_parZC 6 (leX) (leP M1) (LeP.ofExt) [0, 1, 2, 3, 4, 5, 6, 7, 8, 9, 10, 11, 12, 13] 13 13 (fun
      | 0 => fun _ v _ => v = .agg doA
      | 1 => fun _ v _ => v = .pointer (some ⟨w1.heap.size, 0, none⟩)
      | 2 => fun _ v _ => v = .int .i64 2
      | 3 => fun _ v _ => v = .func (.func 52) #[] #[]
      | 4 => fun _ v _ => v = .pointer (some ⟨gg, 0, none⟩)
      | 5 => fun _ v _ => v = .agg #[.int .i64 2, .string ⟨#[116]⟩, .string ⟨#[]⟩, .string ⟨#[]⟩, .int .i64 0, .int .i64 0, .slice (some ⟨gc, 0, none⟩) 1 cp, .bool false, .bool false, .slice none 0 0, .slice none 0 0, .slice none 0 0, .slice none 0 0, .pointer none, .pointer none, .slice none 0 0, .slice none 0 0, .int .i64 0, .int .i64 0]
      | 6 => fun _ => isTup
      | 7 => fun _ => isTup
      | 8 => fun _ v _ => v = .agg #[.slice none 0 0, .slice none 0 0, .int .i64 0]
      | 9 => fun _ v _ => v = .int .i64 0
      | 10 => fun _ v _ => v = .int .i64 0
      | 11 => fun _ => anyW
      | 12 => fun _ v _ => v = .int .i64 0
      | _ => fun _ _ _ => True) (fun
      | _ => undef) (by kernel_rfl) (by kernel_rfl) (by kernel_rfl) (by decide) ?_ ?_ ?_
  · simp (maxSteps := 20000000) only [permL, permOp, List.filterMap_cons, List.filterMap_nil, List.getElem?_cons_succ, List.getElem?_cons_zero, Option.map_some, Option.map_none, List.take_succ_cons, List.take_zero, ParAllC, Act.put, List.setIfInBounds_toArray, List.set_cons_succ, List.set_cons_zero]
    refine ⟨?_, ?_, ?_, ?_, ?_, ?_, ?_, ?_, ?_, ?_, ?_, ?_, ?_, trivial⟩
    · intro vals W hx hd
      rw [if_neg (by decide)] at hx
      have hW := HF.out W hx
      simp [PDepsG, pdeps, Region.binds, List.idxOf_cons] at hd
      refine ParObC.plain rfl ?_
      go_simp
      refine (doings_any W).mono ?_
      rintro e w9 ⟨rfl, hb9⟩
      exact ⟨_, rfl, hb9, fun w3 h3 => rfl⟩
    · intro vals W hx hd
      rw [if_neg (by decide)] at hx
      have hW := HF.out W hx
      simp [PDepsG, pdeps, Region.binds, List.idxOf_cons] at hd
      refine ParObC.plain rfl ?_
      go_simp
      first | exact IsLe.refl (leX) _ | exact ⟨IsLe.refl (leX) _, fun _ _ => rfl⟩
    · intro vals W hx hd
      rw [if_neg (by decide)] at hx
      have hW := HF.out W hx
      simp [PDepsG, pdeps, Region.binds, List.idxOf_cons] at hd
      refine ParObC.plain rfl ?_
      go_simp
      first | exact IsLe.refl (leX) _ | exact ⟨IsLe.refl (leX) _, fun _ _ => rfl⟩
    · intro vals W hx hd
      rw [if_neg (by decide)] at hx
      have hW := HF.out W hx
      simp [PDepsG, pdeps, Region.binds, List.idxOf_cons] at hd
      refine ParObC.plain rfl ?_
      unfold doA at hd
      go_simp
      first | exact IsLe.refl leX _ | exact ⟨IsLe.refl leX _, fun _ _ => rfl⟩
    · intro vals W hx hd
      rw [if_neg (by decide)] at hx
      have hW := HF.out W hx
      simp [PDepsG, pdeps, Region.binds, List.idxOf_cons] at hd
      refine ParObC.plain rfl ?_
      go_simp
      first | exact IsLe.refl (leX) _ | exact ⟨IsLe.refl (leX) _, fun _ _ => rfl⟩
    · intro vals W hx hd
      rw [if_neg (by decide)] at hx
      have hW := HF.out W hx
      simp [PDepsG, pdeps, Region.binds, List.idxOf_cons] at hd
      refine ParObC.plain rfl ?_
      refine yields_loadRow 102 (.tmp 7) rfl w1.heap.size rfl 102 #[.int .i64 2, .string ⟨#[116]⟩, .string ⟨#[]⟩, .string ⟨#[]⟩, .int .i64 0, .int .i64 0, .slice (some ⟨gc, 0, none⟩) 1 cp, .bool false, .bool false, .slice none 0 0, .slice none 0 0, .slice none 0 0, .slice none 0 0, .pointer none, .pointer none, .slice none 0 0, .slice none 0 0, .int .i64 0, .int .i64 0] _ (hx.blk HS2.out hsM) Tryz.underlying102 rfl (by kernel_rfl) ?_
      first | exact IsLe.refl leX _ | exact ⟨IsLe.refl leX _, fun _ _ => rfl⟩
    · intro vals W hx hd
      rw [if_pos (by decide)] at hx
      simp [PDepsG, pdeps, Region.binds, List.idxOf_cons] at hd
      refine ParObC.call rfl ?_
      go_simp
      refine (KT.out gc cp W (Ext.trans HX2.out hx) (HC2.out.ext hx) hgcM).mono ?_
      rintro e w9 ⟨rfl, hl9⟩
      exact ⟨_, rfl, hl9, fun w3 h3 => rfl⟩
    · intro vals W hx hd
      rw [if_neg (by decide)] at hx
      have hW := HF.out W hx
      simp [PDepsG, pdeps, Region.binds, List.idxOf_cons] at hd
      refine ParObC.plain rfl ?_
      go_simp
      exact ⟨IsLe.refl leX _, fun _ _ => hd⟩
    · intro vals W hx hd
      rw [if_neg (by decide)] at hx
      have hW := HF.out W hx
      simp [PDepsG, pdeps, Region.binds, List.idxOf_cons] at hd
      refine ParObC.plain rfl ?_
      have h7 : vals 7 = .tuple #[.agg #[.slice none 0 0, .slice none 0 0, .int .i64 0], .int .i64 0, .int .i64 0] := hd
      go_simp
      first | exact IsLe.refl leX _ | exact ⟨IsLe.refl leX _, fun _ _ => rfl⟩
    · intro vals W hx hd
      rw [if_neg (by decide)] at hx
      have hW := HF.out W hx
      simp [PDepsG, pdeps, Region.binds, List.idxOf_cons] at hd
      refine ParObC.plain rfl ?_
      have h7 : vals 7 = .tuple #[.agg #[.slice none 0 0, .slice none 0 0, .int .i64 0], .int .i64 0, .int .i64 0] := hd
      go_simp
      first | exact IsLe.refl leX _ | exact ⟨IsLe.refl leX _, fun _ _ => rfl⟩
    · intro vals W hx hd
      rw [if_neg (by decide)] at hx
      have hW := HF.out W hx
      simp [PDepsG, pdeps, Region.binds, List.idxOf_cons] at hd
      refine ParObC.plain rfl ?_
      have h7 : vals 7 = .tuple #[.agg #[.slice none 0 0, .slice none 0 0, .int .i64 0], .int .i64 0, .int .i64 0] := hd
      go_simp
      first | exact IsLe.refl leX _ | exact ⟨IsLe.refl leX _, fun _ _ => rfl⟩
    · intro vals W hx hd
      rw [if_neg (by decide)] at hx
      have hW := HF.out W hx
      simp [PDepsG, pdeps, Region.binds, List.idxOf_cons] at hd
      refine ParObC.plain rfl ?_
      have hB := hx.blk HR2.out hrM
      obtain ⟨cr, fr⟩ := hB.facts
      have hrl := hB.lt
      clear hW
      go_simp
      exact ⟨ext_same hB, fun _ _ => trivial⟩
    · intro vals W hx hd
      rw [if_neg (by decide)] at hx
      have hW := HF.out W hx
      simp [PDepsG, pdeps, Region.binds, List.idxOf_cons] at hd
      refine ParObC.plain rfl ?_
      go_simp
      first | exact IsLe.refl leX _ | exact ⟨IsLe.refl leX _, fun _ _ => rfl⟩
  · simp (maxSteps := 20000000) only [permL, permOp, List.filterMap_cons, List.filterMap_nil, List.getElem?_cons_succ, List.getElem?_cons_zero, Option.map_some, Option.map_none, List.drop_succ_cons, List.drop_zero, List.take_succ_cons, List.take_zero, Nat.reduceSub, ZAll, ParEnd, Act.put, List.setIfInBounds_toArray, List.set_cons_succ, List.set_cons_zero]
  intro vals W hx hf hz
  simp (maxSteps := 20000000) only [permL, permOp, List.filterMap_cons, List.filterMap_nil, List.getElem?_cons_succ, List.getElem?_cons_zero, Option.map_some, Option.map_none, ParFactsG, List.take_succ_cons, List.take_zero, and_true, Nat.reduceAdd] at hf
  obtain ⟨f0, f1, f2, f3, f4, f5, f6, f7, f8, f9, f10, f11, f12⟩ := hf
  clear hz
  simp (maxSteps := 20000000) only [permL, permOp, List.filterMap_cons, List.filterMap_nil, List.getElem?_cons_succ, List.getElem?_cons_zero, Option.map_some, Option.map_none, List.drop_succ_cons, List.drop_zero, List.take_succ_cons, List.take_zero, Nat.reduceSub, ParEnd, ZTail, Act.put, List.setIfInBounds_toArray, List.set_cons_succ, List.set_cons_zero, Nat.reduceAdd, f0, f1, f2, f3, f4, f5, f8, f9, f10, f12]
  clear f0 f1 f2 f3 f4 f5 f8 f9 f10 f12
  have HRW := Lib.hid (hx.blk HR2.out hrM)
  have HXW := Lib.hid ((LeP.ofExt (p := M1) HX2.out).trans hx)
  clear f6 f7 f11 hx HF HX2 HR2 HC2 HS2
  refine ⟨?_⟩
  go_simp
  obtain ⟨cr, fr⟩ := HRW.out.facts
  have hrl := HRW.out.lt
  repeat (first | go_values | go_skip | go_guarded | go_step | go_upon)
  refine bodyPost_ret (ret_res3 rfl _ rfl rfl (show Blk _ w.heap.size #[.slice none 0 0, .slice none 0 0, .int .i64 0] 60 from (((HRW.out.set 0 (.slice none 0 0)).set 1 (.slice none 0 0)).set 2 (.int .i64 0)))) rfl ?_
  exact ⟨rfl, HXW.out.trans (LeP.ofExt (ext_same HRW.out))⟩
end Go.Proofs.YtchpbdodlbghaaaGreatDoor
