import Derived.Test.YtchpbdodlbghaaaGreatDoorParD
import Derived.Test.YtchpbdodlbghaaaGreatDoorParH
import Derived.Test.YtchpbdodlbghaaaGreatDoorScrK
import Derived.Test.YtchpbdodlbghaaaGreatDoorTrieE
namespace Go.Proofs.YtchpbdodlbghaaaGreatDoor
open Go.RowKit Go.Lib
set_option maxRecDepth 100000

theorem keySt (s : ByteArray) (h : s.size ≤ maxLen) : KeyOk Tryz.prog 282 (.agg #[.string s]) := by
  have hkt : Tryz.prog.keyType 282 = true := by kernel_rfl
  have hc : Tryz.prog.cellsOf 282 = 1 := by kernel_rfl
  have hs : Tryz.prog.cellsOf 9 = 1 := by kernel_rfl
  obtain ⟨m, hm⟩ := typesSize
  unfold KeyOk keyOf
  simp only [Tryz.underlying282]
  rw [if_pos (by simp [hkt, Value.formed, Tryz.underlying282, hc]), hm]
  simp [Program.keyLits, Tryz.underlying282, Tryz.underlying9, Value.cells, hc, hs, h]
theorem keyedSt : Maps.Keyed Tryz.prog 282 := Maps.Keyed.of_law (deep_law (m := 2) (by omega) (by kernel_rfl) (by kernel_rfl) (by kernel_rfl))
theorem keyStr (s : ByteArray) (h : s.size ≤ maxLen) : KeyOk Tryz.prog 9 (.string s) := by
  unfold KeyOk keyOf
  simp [Tryz.underlying9, h, mapKey]
theorem keyedStr : Maps.Keyed Tryz.prog 9 := Maps.string_keyed Tryz.underlying9
theorem zeroTabP : ∀ w, (zeroValue 280).run Tryz.prog w = .ok (.pointer none) w := fun _ => by kernel_rfl
set_option maxHeartbeats 2000000 in
theorem collOk_bin (w : World) : Calls Tryz.prog 141 #[.agg #[.int .i64 1, .int .i64 0, .bool false, .bool false, .pointer none]] w fun e w' => e = .returned (.bool true) ∧ Below w.heap.size w w' := by
  go_enter Tryz.func141, Tryz.ntmps141
  go_wp2_with fail
  go_ret
  exact ⟨rfl, by go_grown⟩
set_option maxHeartbeats 2000000 in
theorem good_ct (w : World) : Calls Tryz.prog 139 #[.agg #[.string ⟨#[97]⟩, .string ⟨#[98, 105, 110, 97, 114, 121]⟩, .int .i64 2, .int .i64 1, .int .i64 0, .bool false, .bool false, .pointer none, .bool false]] w fun e w' => e = .returned (.bool true) ∧ Below w.heap.size w w' := by
  have HR0 := Lib.hid (Blk.new w #[.string ⟨#[97]⟩, .string ⟨#[98, 105, 110, 97, 114, 121]⟩, .int .i64 2, .int .i64 1, .int .i64 0, .bool false, .bool false, .pointer none, .bool false] 177 rfl)
  have HX0 := Lib.hid (show Ext w (w.alloc (.cells #[.string ⟨#[97]⟩, .string ⟨#[98, 105, 110, 97, 114, 121]⟩, .int .i64 2, .int .i64 1, .int .i64 0, .bool false, .bool false, .pointer none, .bool false] 177)) from (Ext.refl w).alloc _)
  go_enter Tryz.func139, Tryz.ntmps139
  go_upto_region 1 with (fail)
  generalize w.alloc (.cells #[.string ⟨#[97]⟩, .string ⟨#[98, 105, 110, 97, 114, 121]⟩, .int .i64 2, .int .i64 1, .int .i64 0, .bool false, .bool false, .pointer none, .bool false] 177) = W0 at HR0 HX0 ⊢
  obtain ⟨cr, fr⟩ := HR0.out.facts
  have hrl := HR0.out.lt
  go_simp
  repeat (first | go_values | go_skip | go_guarded | go_step | go_upon)
  refine (collOk_bin W0).mono ?_
  rintro e w1 ⟨rfl, hb1⟩
  go_simp
  repeat (first | go_values | go_skip | go_guarded | go_step | go_upon)
  go_ret
  exact ⟨rfl, HX0.out.trans hb1⟩
set_option maxHeartbeats 2000000 in
theorem create1_ct (w : World) : Calls Tryz.prog 138 #[.agg #[.string ⟨#[97]⟩, .string ⟨#[98, 105, 110, 97, 114, 121]⟩, .int .i64 2, .int .i64 1, .int .i64 0, .bool false, .bool false, .pointer none, .bool false]] w fun e w' => e = .returned (.bool false) ∧ Below w.heap.size w w' := by
  have HR0 := Lib.hid (Blk.new w #[.string ⟨#[97]⟩, .string ⟨#[98, 105, 110, 97, 114, 121]⟩, .int .i64 2, .int .i64 1, .int .i64 0, .bool false, .bool false, .pointer none, .bool false] 177 rfl)
  have HX0 := Lib.hid (show Ext w (w.alloc (.cells #[.string ⟨#[97]⟩, .string ⟨#[98, 105, 110, 97, 114, 121]⟩, .int .i64 2, .int .i64 1, .int .i64 0, .bool false, .bool false, .pointer none, .bool false] 177)) from (Ext.refl w).alloc _)
  go_enter Tryz.func138, Tryz.ntmps138
  go_upto_region 1 with (fail)
  generalize w.alloc (.cells #[.string ⟨#[97]⟩, .string ⟨#[98, 105, 110, 97, 114, 121]⟩, .int .i64 2, .int .i64 1, .int .i64 0, .bool false, .bool false, .pointer none, .bool false] 177) = W0 at HR0 HX0 ⊢
  obtain ⟨cr, fr⟩ := HR0.out.facts
  have hrl := HR0.out.lt
  go_simp
  repeat (first | go_values | go_skip | go_guarded | go_step | go_upon)
  refine (good_ct W0).mono ?_
  rintro e w1 ⟨rfl, hb1⟩
  go_simp
  repeat (first | go_values | go_skip | go_guarded | go_step | go_upon)
  go_ret
  exact ⟨rfl, HX0.out.trans hb1⟩
def ColAt (w : World) (gs : Nat) : Prop := ∃ cur, Blk w gs cur 177 ∧ cur.toList.take 9 = (#[.string ⟨#[97]⟩, .string ⟨#[98, 105, 110, 97, 114, 121]⟩, .int .i64 2, .int .i64 1, .int .i64 0, .bool false, .bool false, .pointer none, .bool false] : Array Value).toList
theorem ColAt.ext {w w' : World} {gs : Nat} (h : ColAt w gs) (hx : Ext w w') : ColAt w' gs := by
  obtain ⟨cur, h1, h2⟩ := h
  exact ⟨cur, h1.keep hx, h2⟩
theorem ColAt.same {w w' : World} {gs : Nat} (h : ColAt w gs) (hx : w'.heap[gs]? = w.heap[gs]?) : ColAt w' gs := by
  obtain ⟨cur, h1, h2⟩ := h
  exact ⟨cur, hx.trans h1, h2⟩
theorem ColAt.cells {w : World} {gs : Nat} (h : ColAt w gs) : gs < w.heap.size ∧ ∀ j, j < 9 → w.cell? ⟨gs, j, none⟩ = (#[.string ⟨#[97]⟩, .string ⟨#[98, 105, 110, 97, 114, 121]⟩, .int .i64 2, .int .i64 1, .int .i64 0, .bool false, .bool false, .pointer none, .bool false] : Array Value)[j]? := by
  obtain ⟨cur, h1, h2⟩ := h
  refine ⟨h1.lt, fun j hj => ?_⟩
  rw [h1.cell j, ← Array.getElem?_toList, ← Array.getElem?_toList, ← h2, List.getElem?_take, if_pos hj]
theorem ColAt.nine {w : World} {gs : Nat} (h : ColAt w gs) : gs < w.heap.size ∧ w.cell? ⟨gs, 0, none⟩ = some (.string ⟨#[97]⟩) ∧ w.cell? ⟨gs, 1, none⟩ = some (.string ⟨#[98, 105, 110, 97, 114, 121]⟩) ∧ w.cell? ⟨gs, 2, none⟩ = some (.int .i64 2) ∧ w.cell? ⟨gs, 3, none⟩ = some (.int .i64 1) ∧ w.cell? ⟨gs, 4, none⟩ = some (.int .i64 0) ∧ w.cell? ⟨gs, 5, none⟩ = some (.bool false) ∧ w.cell? ⟨gs, 6, none⟩ = some (.bool false) ∧ w.cell? ⟨gs, 7, none⟩ = some (.pointer none) ∧ w.cell? ⟨gs, 8, none⟩ = some (.bool false) := by
  obtain ⟨h1, h2⟩ := h.cells
  exact ⟨h1, h2 0 (by omega), h2 1 (by omega), h2 2 (by omega), h2 3 (by omega), h2 4 (by omega), h2 5 (by omega), h2 6 (by omega), h2 7 (by omega), h2 8 (by omega)⟩
set_option maxHeartbeats 2000000 in
theorem indexFunc_ct (gs cap : Nat) (w : World) (h : ColAt w gs) : Calls Tryz.prog 149 #[.slice (some ⟨gs, 0, none⟩) 1 cap, .func (.func 138) #[] #[]] w fun e w' => e = .returned (.int .i64 (-1)) ∧ Below w.heap.size w w' := by
  have KC := Lib.hid (create1_ct w)
  obtain ⟨hl, c0, c1, c2, c3, c4, c5, c6, c7, c8⟩ := h.nine
  clear h
  go_enter Tryz.func149, Tryz.ntmps149
  go_simp
  repeat (first | go_values | go_skip | go_guarded | go_step | go_upon)
  refine wp_loop_rounds 2 ?_
  rw [rounds_succ]
  go_simp
  repeat (first | go_values | go_skip | go_guarded | go_step | go_upon)
  refine KC.out.mono ?_
  rintro e w1 ⟨rfl, hb1⟩
  go_simp
  repeat (first | go_values | go_skip | go_guarded | go_step | go_upon)
  rw [rounds_succ]
  go_simp
  repeat (first | go_values | go_skip | go_guarded | go_step | go_upon)
  go_ret
  exact ⟨rfl, hb1⟩
set_option maxHeartbeats 2000000 in
theorem containsFunc_ct (gs cap : Nat) (w : World) (h : ColAt w gs) : Calls Tryz.prog 137 #[.slice (some ⟨gs, 0, none⟩) 1 cap, .func (.func 138) #[] #[]] w fun e w' => e = .returned (.bool false) ∧ Below w.heap.size w w' := by
  have KC := Lib.hid (indexFunc_ct gs cap w h)
  clear h
  go_enter Tryz.func137, Tryz.ntmps137
  go_simp
  repeat (first | go_values | go_skip | go_guarded | go_step | go_upon)
  refine KC.out.mono ?_
  rintro e w1 ⟨rfl, hb1⟩
  go_simp
  repeat (first | go_values | go_skip | go_guarded | go_step | go_upon)
  go_ret
  exact ⟨rfl, hb1⟩
set_option maxHeartbeats 2000000 in
theorem clone_ct (gs cap : Nat) (w : World) (h : ColAt w gs) : Calls Tryz.prog 140 #[.slice (some ⟨gs, 0, none⟩) 1 cap] w fun e w' => (∃ a n c, e = .returned (.slice a n c)) ∧ Below w.heap.size w w' := by
  obtain ⟨hl, c0, c1, c2, c3, c4, c5, c6, c7, c8⟩ := h.nine
  clear h
  have he := Lib.run_eql_slice_nil (P := Tryz.prog) w 173 177 (some ⟨gs, 0, none⟩) 1 cap 0 0 Tryz.underlying173
  go_enter Tryz.func140, Tryz.ntmps140
  go_simp
  repeat (first | go_values | go_skip | go_guarded | go_step | go_upon)
  go_ret
  exact ⟨⟨_, _, _, rfl⟩, (((Ext.refl w).alloc _).alloc _).drew⟩
end Go.Proofs.YtchpbdodlbghaaaGreatDoor
namespace Go.Proofs.YtchpbdodlbghaaaGreatDoor.Y
open Go.RowKit Go.Lib
set_option maxRecDepth 100000
theorem yields_upd {P : Program} {w : World} {o : Oper} {ρ : Operand → Value} {Y : Value → World → Prop} (t : TypeId) (m x y : Operand) (ho : o.op = .mapUpdate t m x y) {b : Nat} {k v : Value} (hm : ρ m = .map (some b)) (hx : ρ x = k) (hy : ρ y = v) (w' : World)
    (hr : (Instr.mapUpdate t (.map (some b)) k v).run P w = .ok () w') (h : Y undef w') : yields P o ρ w Y := by
  unfold yields execOp
  simp [ho, hm, hx, hy, hr, Result.andThen]
  exact h
def isSl (v : Value) (_ : World) : Prop := ∃ a n c, v = .slice a n c
def isMp (v : Value) (_ : World) : Prop := ∃ m, v = .map (some m)
def isTb (v : Value) (_ : World) : Prop := ∃ a n c m, v = .agg #[.slice a n c, .map (some m), .int .i64 0]
def isPt (v : Value) (_ : World) : Prop := ∃ g, v = .pointer (some ⟨g, 0, none⟩)
set_option maxHeartbeats 8000000 in
theorem storeCreate_ct (d gs cap M1 M2 : Nat) (f : Int) (w : World) (hblk : Blk w d #[.int .i64 f, .map (some M1), .map (some M2)] 72) (g1 : GMap Tryz.prog 282 w M1 []) (hC : ColAt w gs) :
    Calls Tryz.prog 83 #[.pointer (some ⟨d, 0, none⟩), .string ⟨#[116]⟩, .slice (some ⟨gs, 0, none⟩) 1 cap] w fun e w' => e = .returned (.int .i64 0) ∧ LeP M1 w w' := by
  have hmm := @run_makeMap Tryz.prog
  have hdl := hblk.lt
  have hml := g1.lt
  have hcl := hC.nine.1
  have HG1 := Lib.hid g1
  have HD1 := Lib.hid hblk
  have HC1 := Lib.hid hC
  obtain ⟨cd, fd⟩ := hblk.facts
  clear hblk hC g1
  go_enter Tryz.func83, Tryz.ntmps83
  go_upto_region 10 with (first
    | (at_lookup; refine wpList_look rfl _ _ _ _ rfl M1 (.pointer none) rfl (HG1.out.run_miss keyedSt Tryz.underlying69 zeroTabP (keySt _ (by decide)) (by simp) false) ?_)
    | (refine wpList_glen rfl _ _ rfl _ _ Tryz.underlying69 M1 [] 0 rfl HG1.out rfl ?_))
  have hx1 : Ext w (w.alloc (.map #[] 0)) := (Ext.refl w).alloc _
  have HX1 := Lib.hid hx1
  have HS1 := Lib.hid (GMap.new Tryz.prog 9 w rfl)
  have HG2 := Lib.hid (HG1.out.keep hx1)
  have HD2 := Lib.hid (HD1.out.keep hx1)
  have HC2 := Lib.hid (HC1.out.ext hx1)
  have hz1 : w.heap.size < (w.alloc (.map #[] 0)).heap.size := by simp
  clear hx1 HG1 HD1 HC1 cd fd
  generalize w.alloc (.map #[] 0) = W1 at HX1 HS1 HG2 HD2 HC2 hz1 ⊢
  obtain ⟨hcl1, c0, c1, c2, c3, c4, c5, c6, c7, c8⟩ := HC2.out.nine
  repeat (first | go_values | go_skip | go_guarded | go_step | go_upon)
  refine wp_loop_rounds 2 ?_
  rw [rounds_succ]
  have hxa : Ext W1 (W1.alloc (.cells #[.string ⟨#[97]⟩, .string ⟨#[98, 105, 110, 97, 114, 121]⟩, .int .i64 2, .int .i64 1, .int .i64 0, .bool false, .bool false, .pointer none, .bool false] 177)) := (Ext.refl W1).alloc _
  have HSb := Lib.hid (HS1.out.keep hxa)
  have HGb := Lib.hid (HG2.out.keep hxa)
  have HDb := Lib.hid (HD2.out.keep hxa)
  have HRb := Lib.hid (Blk.new W1 #[.string ⟨#[97]⟩, .string ⟨#[98, 105, 110, 97, 114, 121]⟩, .int .i64 2, .int .i64 1, .int .i64 0, .bool false, .bool false, .pointer none, .bool false] 177 rfl)
  have HXb := Lib.hid (HX1.out.trans hxa)
  have HCb := Lib.hid (HC2.out.ext hxa)
  clear hxa HX1 HS1 HG2 HD2
  go_wp2_with (first
    | (at_lookup; generalize W1.alloc (.cells #[.string ⟨#[97]⟩, .string ⟨#[98, 105, 110, 97, 114, 121]⟩, .int .i64 2, .int .i64 1, .int .i64 0, .bool false, .bool false, .pointer none, .bool false] 177) = W2 at HSb HGb HDb HRb HXb HCb ⊢; refine wpList_look rfl _ _ _ _ rfl w.heap.size (.bool false) rfl (HSb.out.run_miss keyedStr Tryz.underlying283 zeroBool (keyStr _ (by decide)) (by simp) false) ?_; obtain ⟨cr, fr⟩ := HRb.out.facts; have hrl := HRb.out.lt)
    | (at_mapUpdate; refine wpList_gput rfl _ _ _ _ rfl _ _ keyedStr Tryz.underlying283 w.heap.size [] rfl HSb.out (keyStr _ (by decide)) (by simp) ?_; intro w4 g1 g2 g3; have HGc := Lib.hid (HGb.out.grown g2 (by simp; omega)); have HDc := Lib.hid (show Blk w4 d #[.int .i64 f, .map (some M1), .map (some M2)] 72 from (g2.block d HDb.out.lt (by simp; omega)).trans HDb.out); have HCc := Lib.hid (HCb.out.same (g2.block gs HCb.out.nine.1 (by simp; omega))); have HXc := Lib.hid (HXb.out.grown g2 HXb.out.size (fun k hk => by cases hk; exact Nat.le_refl _)); clear HSb HGb HDb HRb HXb HCb cr fr g1 g2))
  rw [rounds_succ]
  go_simp
  repeat (first | go_values | go_skip | go_guarded | go_step | go_upon)
  refine (containsFunc_ct gs cap w4 HCc.out).mono ?_
  rintro e w5 ⟨rfl, hb5⟩
  have HG5 := Lib.hid (HGc.out.keep hb5)
  have HD5 := Lib.hid (HDc.out.keep hb5)
  have HC5 := Lib.hid (HCc.out.ext hb5)
  have HX5 := Lib.hid (Below.trans HXc.out (hb5.mono HXc.out.size))
  clear hb5 HGc HDc HCc HXc c0 c1 c2 c3 c4 c5 c6 c7 c8 HC2
  go_simp
  go_upto_region 19 with (fail)
  have HF := Lib.hid (show ∀ W, Ext w5 W → W.cell? ⟨d, 1, none⟩ = some (.map (some M1)) ∧ True from fun W hW => ⟨(HD5.out.keep hW).cell 1, trivial⟩)
  refine wp_parZH [0, 1, 2, 3, 4, 5, 6, 7, 8, 9, 10, 11] 11 11 (fun
      | 0 => fun v _ => v = .pointer (some ⟨d, 0, none⟩)
      | 1 => fun v _ => v = .pointer (some ⟨d, 0, none⟩)
      | 2 => fun v _ => v = .pointer (some ⟨d, 1, none⟩)
      | 3 => fun v _ => v = .map (some M1)
      | 4 => fun v _ => v = .string ⟨#[116]⟩
      | 5 => fun v _ => v = .agg #[.string ⟨#[116]⟩]
      | 6 => fun v _ => v = .slice (some ⟨gs, 0, none⟩) 1 cap
      | 7 => isSl
      | 8 => isMp
      | 9 => isTb
      | 10 => isPt
      | _ => fun _ _ => True) (fun
      | _ => undef) (by kernel_rfl) (by kernel_rfl) (by kernel_rfl) ?_ ?_ ?_
  · simp (maxSteps := 20000000) only [permL, permOp, List.filterMap_cons, List.filterMap_nil, List.getElem?_cons_succ, List.getElem?_cons_zero, Option.map_some, Option.map_none, List.take_succ_cons, List.take_zero, ParAll, Act.put, List.setIfInBounds_toArray, List.set_cons_succ, List.set_cons_zero]
    refine ⟨?_, ?_, ?_, ?_, ?_, ?_, ?_, ?_, ?_, ?_, ?_, trivial⟩
    · intro vals W hx hd
      have hW := HF.out W hx
      simp [PDeps, pdeps, Region.binds, List.idxOf_cons] at hd
      first
        | refine ParOb.plain rfl ?_
        | refine ParOb.wanted (by simp [Region.wanted, yielded, hd]) ?_
      go_simp
      exact ParPost.same fun _ _ => rfl
    · intro vals W hx hd
      have hW := HF.out W hx
      simp [PDeps, pdeps, Region.binds, List.idxOf_cons] at hd
      first
        | refine ParOb.plain rfl ?_
        | refine ParOb.wanted (by simp [Region.wanted, yielded, hd]) ?_
      go_simp
      exact ParPost.same fun _ _ => rfl
    · intro vals W hx hd
      have hW := HF.out W hx
      simp [PDeps, pdeps, Region.binds, List.idxOf_cons] at hd
      first
        | refine ParOb.plain rfl ?_
        | refine ParOb.wanted (by simp [Region.wanted, yielded, hd]) ?_
      go_simp
      exact ParPost.same fun _ _ => rfl
    · intro vals W hx hd
      have hW := HF.out W hx
      simp [PDeps, pdeps, Region.binds, List.idxOf_cons] at hd
      first
        | refine ParOb.plain rfl ?_
        | refine ParOb.wanted (by simp [Region.wanted, yielded, hd]) ?_
      go_simp
      exact ParPost.same fun _ _ => rfl
    · intro vals W hx hd
      have hW := HF.out W hx
      simp [PDeps, pdeps, Region.binds, List.idxOf_cons] at hd
      first
        | refine ParOb.plain rfl ?_
        | refine ParOb.wanted (by simp [Region.wanted, yielded, hd]) ?_
      go_simp
      exact ParPost.same fun _ _ => rfl
    · intro vals W hx hd
      have hW := HF.out W hx
      simp [PDeps, pdeps, Region.binds, List.idxOf_cons] at hd
      first
        | refine ParOb.plain rfl ?_
        | refine ParOb.wanted (by simp [Region.wanted, yielded, hd]) ?_
      go_simp
      exact ParPost.same fun _ _ => rfl
    · intro vals W hx hd
      have hW := HF.out W hx
      simp [PDeps, pdeps, Region.binds, List.idxOf_cons] at hd
      first
        | refine ParOb.plain rfl ?_
        | refine ParOb.wanted (by simp [Region.wanted, yielded, hd]) ?_
      go_simp
      exact ParPost.same fun _ _ => rfl
    · intro vals W hx hd
      have hW := HF.out W hx
      simp [PDeps, pdeps, Region.binds, List.idxOf_cons] at hd
      first
        | refine ParOb.plain rfl ?_
        | refine ParOb.wanted (by simp [Region.wanted, yielded, hd]) ?_
      go_simp
      refine (clone_ct gs cap W (HC5.out.ext hx)).mono ?_
      rintro e w9 ⟨⟨a, n, c, rfl⟩, hb9⟩
      exact ⟨_, rfl, hb9, fun _ _ => ⟨a, n, c, rfl⟩⟩
    · intro vals W hx hd
      have hW := HF.out W hx
      simp [PDeps, pdeps, Region.binds, List.idxOf_cons] at hd
      first
        | refine ParOb.plain rfl ?_
        | refine ParOb.wanted (by simp [Region.wanted, yielded, hd]) ?_
      go_simp
      exact ⟨(Ext.refl _).alloc _, fun w2 h2 => ⟨_, rfl⟩⟩
    · intro vals W hx hd
      have hW := HF.out W hx
      simp [PDeps, pdeps, Region.binds, List.idxOf_cons] at hd
      first
        | refine ParOb.plain rfl ?_
        | refine ParOb.wanted (by simp [Region.wanted, yielded, hd]) ?_
      obtain ⟨⟨a, n, c, hv⟩, m, hv2⟩ := hd
      go_simp
      exact ParPost.same fun _ _ => ⟨a, n, c, m, rfl⟩
    · intro vals W hx hd
      have hW := HF.out W hx
      simp [PDeps, pdeps, Region.binds, List.idxOf_cons] at hd
      first
        | refine ParOb.plain rfl ?_
        | refine ParOb.wanted (by simp [Region.wanted, yielded, hd]) ?_
      obtain ⟨a, n, c, m, hv⟩ := hd
      go_simp
      exact ⟨(Ext.refl _).alloc _, fun w2 h2 => ⟨_, rfl⟩⟩
  · simp (maxSteps := 20000000) only [permL, permOp, List.filterMap_cons, List.filterMap_nil, List.getElem?_cons_succ, List.getElem?_cons_zero, Option.map_some, Option.map_none, List.drop_succ_cons, List.drop_zero, List.take_succ_cons, List.take_zero, Nat.reduceSub, ZAll, ParEnd, Act.put, List.setIfInBounds_toArray, List.set_cons_succ, List.set_cons_zero]
  intro vals W hx hf hz
  simp (maxSteps := 20000000) only [permL, permOp, List.filterMap_cons, List.filterMap_nil, List.getElem?_cons_succ, List.getElem?_cons_zero, Option.map_some, Option.map_none, ParFacts, List.take_succ_cons, List.take_zero, and_true, Nat.reduceAdd] at hf
  obtain ⟨f0, f1, f2, f3, f4, f5, f6, f7, f8, f9, f10⟩ := hf
  clear hz
  simp (maxSteps := 20000000) only [permL, permOp, List.filterMap_cons, List.filterMap_nil, List.getElem?_cons_succ, List.getElem?_cons_zero, Option.map_some, Option.map_none, List.drop_succ_cons, List.drop_zero, List.take_succ_cons, List.take_zero, Nat.reduceSub, ParEnd, ZTail, Act.put, List.setIfInBounds_toArray, List.set_cons_succ, List.set_cons_zero, Nat.reduceAdd, f0, f1, f2, f3, f4, f5, f6]
  clear f0 f1 f2 f3 f4 f5 f6
  generalize vals 7 = y7 at f7 ⊢
  generalize vals 8 = y8 at f8 ⊢
  generalize vals 9 = y9 at f9 ⊢
  generalize vals 10 = y10 at f10 ⊢
  obtain ⟨g10, rfl⟩ := f10
  have HGW := Lib.hid (HG5.out.keep hx)
  have HXW := Lib.hid (Below.trans HX5.out (hx.mono HX5.out.size))
  clear f7 f8 f9 hx
  refine ⟨?_⟩
  obtain ⟨w6, q0, q1, q2, q3⟩ := HGW.out.run_put keyedSt Tryz.underlying69 (keySt ⟨#[116]⟩ (by decide)) (by simp) (.pointer (some ⟨g10, 0, none⟩))
  have hbl : LeP M1 w w6 := (LeP.ofExt (show Ext w W from HXW.out)).trans ⟨q2.os, q2.tape, q2.output, q2.size, fun i hi hn => q2.block i hi (fun e => hn (Option.some.inj e))⟩
  clear q1 q2 q3
  refine yields_upd 69 (.tmp 53) (.tmp 55) (.tmp 60) rfl rfl rfl rfl w6 q0 ?_
  go_simp
  repeat (first | go_values | go_skip | go_guarded | go_step | go_upon)
  go_ret
  exact ⟨rfl, hbl⟩
end Go.Proofs.YtchpbdodlbghaaaGreatDoor.Y
namespace Go.Proofs.YtchpbdodlbghaaaGreatDoor
open Go.RowKit Go.Lib
set_option maxRecDepth 100000

def PColAt (w : World) (gc : Nat) : Prop := ∃ cur, Blk w gc cur 175 ∧ cur.toList.take 6 = colL
theorem PColAt.ext {w w' : World} {gs : Nat} (h : PColAt w gs) (hx : Ext w w') : PColAt w' gs := by
  obtain ⟨cur, h1, h2⟩ := h
  exact ⟨cur, h1.keep hx, h2⟩
theorem PColAt.later {w w' : World} {gs M : Nat} (h : PColAt w gs) (hx : LeP M w w') (hn : gs ≠ M) : PColAt w' gs := by
  obtain ⟨cur, h1, h2⟩ := h
  exact ⟨cur, hx.blk h1 hn, h2⟩
theorem PColAt.six {w : World} {gs : Nat} (h : PColAt w gs) : gs < w.heap.size ∧ w.cell? ⟨gs, 0, none⟩ = some (.string ⟨#[97]⟩) ∧ w.cell? ⟨gs, 1, none⟩ = some (.string ⟨#[]⟩) ∧ w.cell? ⟨gs, 2, none⟩ = some (.int .i64 2) ∧ w.cell? ⟨gs, 3, none⟩ = some (.bool false) ∧ w.cell? ⟨gs, 4, none⟩ = some (.bool false) ∧ w.cell? ⟨gs, 5, none⟩ = some (.bool false) := by
  obtain ⟨cur, h1, h2⟩ := h
  have hc : ∀ j, j < 6 → w.cell? ⟨gs, j, none⟩ = colL[j]? := fun j hj => by
    rw [h1.cell j, ← Array.getElem?_toList, ← h2, List.getElem?_take, if_pos hj]
  exact ⟨h1.lt, hc 0 (by omega), hc 1 (by omega), hc 2 (by omega), hc 3 (by omega), hc 4 (by omega), hc 5 (by omega)⟩
theorem ret_res3 {t u v : Tmp} {fn : Func} (h : fn.results = #[.cell t 60, .tmp u, .tmp v]) (tmps : Array Value) {w : World} {g : Nat} {cs : Array Value} (hc : cs.size = 3) (hp : tmps.getD t undef = .pointer (some ⟨g, 0, none⟩)) (hg : Blk w g cs 60) :
    (results fn tmps).run Tryz.prog w = .ok (.tuple #[.agg cs, tmps.getD u undef, tmps.getD v undef]) w := by
  have hp' : tmps[t]?.getD undef = .pointer (some ⟨g, 0, none⟩) := by simpa using hp
  have hr := run_loadVar_row w g 60 60 cs (0, 0) _ hg Tryz.underlying60 rfl (by rw [hc]; kernel_rfl)
  simp [results, h, hp', asAddr, hr]
theorem infoRes : (Tryz.prog.info? 60).map (·.size) = some 3 := by kernel_rfl
def isZ (v : Value) (_ : World) : Prop := v = .int .i64 0
def EngTabPost (M1 : Nat) (w : World) (e : Ending) (w' : World) : Prop := e = .returned (.tuple #[.agg #[.slice none 0 0, .slice none 0 0, .int .i64 0], .int .i64 0, .int .i64 0]) ∧ LeP M1 w w'
set_option maxHeartbeats 8000000 in
theorem engTable_ct (gg d q M1 M2 gc cp : Nat) (r b f p : Int) (w : World) (hE : Blk w gg #[.int .i64 r, .int .i64 b, .int .i64 f, .int .i64 p, .pointer (some ⟨d, 0, none⟩), .pointer (some ⟨q, 0, none⟩)] 51)
    (hD : Blk w d #[.int .i64 f, .map (some M1), .map (some M2)] 72) (hG : GMap Tryz.prog 282 w M1 []) (hR : RegAt w q) (hC : PColAt w gc) (hgM : gg ≠ M1) (_hdM : d ≠ M1) (hcM : gc ≠ M1) (hT : ∀ W, Ext w W → Lib.Utf8Tabs 1 2 W) :
    Calls Tryz.prog 52 #[.pointer (some ⟨gg, 0, none⟩), .agg #[.int .i64 2, .string ⟨#[116]⟩, .string ⟨#[]⟩, .string ⟨#[]⟩, .int .i64 0, .int .i64 0, .slice (some ⟨gc, 0, none⟩) 1 cp, .bool false, .bool false, .slice none 0 0, .slice none 0 0, .slice none 0 0, .slice none 0 0, .pointer none, .pointer none, .slice none 0 0, .slice none 0 0, .int .i64 0, .int .i64 0]] w (EngTabPost M1 w) := by
  have KC := Lib.hid (fun W (hW : Ext w W) => column_ct gg q d r b f p W (hE.keep hW) (hR.ext hW) (fun V hV => hT V (Ext.trans hW hV)))
  have hcl := hC.six.1
  have hgl := hE.lt
  have hx0 : Ext w ((w.alloc (.cells #[.int .i64 2, .string ⟨#[116]⟩, .string ⟨#[]⟩, .string ⟨#[]⟩, .int .i64 0, .int .i64 0, .slice (some ⟨gc, 0, none⟩) 1 cp, .bool false, .bool false, .slice none 0 0, .slice none 0 0, .slice none 0 0, .slice none 0 0, .pointer none, .pointer none, .slice none 0 0, .slice none 0 0, .int .i64 0, .int .i64 0] 102)).alloc (.cells #[.slice none 0 0, .slice none 0 0, .int .i64 0] 60)) := ((Ext.refl w).alloc _).alloc _
  have HX0 := Lib.hid hx0
  have HS0 := Lib.hid (show Blk ((w.alloc (.cells #[.int .i64 2, .string ⟨#[116]⟩, .string ⟨#[]⟩, .string ⟨#[]⟩, .int .i64 0, .int .i64 0, .slice (some ⟨gc, 0, none⟩) 1 cp, .bool false, .bool false, .slice none 0 0, .slice none 0 0, .slice none 0 0, .slice none 0 0, .pointer none, .pointer none, .slice none 0 0, .slice none 0 0, .int .i64 0, .int .i64 0] 102)).alloc (.cells #[.slice none 0 0, .slice none 0 0, .int .i64 0] 60)) w.heap.size #[.int .i64 2, .string ⟨#[116]⟩, .string ⟨#[]⟩, .string ⟨#[]⟩, .int .i64 0, .int .i64 0, .slice (some ⟨gc, 0, none⟩) 1 cp, .bool false, .bool false, .slice none 0 0, .slice none 0 0, .slice none 0 0, .slice none 0 0, .pointer none, .pointer none, .slice none 0 0, .slice none 0 0, .int .i64 0, .int .i64 0] 102 from (Blk.new w _ _ rfl).alloc _)
  have HR0 := Lib.hid (show Blk ((w.alloc (.cells #[.int .i64 2, .string ⟨#[116]⟩, .string ⟨#[]⟩, .string ⟨#[]⟩, .int .i64 0, .int .i64 0, .slice (some ⟨gc, 0, none⟩) 1 cp, .bool false, .bool false, .slice none 0 0, .slice none 0 0, .slice none 0 0, .slice none 0 0, .pointer none, .pointer none, .slice none 0 0, .slice none 0 0, .int .i64 0, .int .i64 0] 102)).alloc (.cells #[.slice none 0 0, .slice none 0 0, .int .i64 0] 60)) (w.heap.size + 1) #[.slice none 0 0, .slice none 0 0, .int .i64 0] 60 from Blk.new _ _ _ (by simp))
  have HE0 := Lib.hid (hE.keep hx0)
  have HD0 := Lib.hid (hD.keep hx0)
  have HG0 := Lib.hid (hG.keep hx0)
  have HC0 := Lib.hid (hC.ext hx0)
  have hML := hG.lt
  clear hE hD hG hR hC hT hx0
  go_enter Tryz.func52, Tryz.ntmps52
  go_upto_region 1 with (fail)
  generalize ((w.alloc (.cells #[.int .i64 2, .string ⟨#[116]⟩, .string ⟨#[]⟩, .string ⟨#[]⟩, .int .i64 0, .int .i64 0, .slice (some ⟨gc, 0, none⟩) 1 cp, .bool false, .bool false, .slice none 0 0, .slice none 0 0, .slice none 0 0, .slice none 0 0, .pointer none, .pointer none, .slice none 0 0, .slice none 0 0, .int .i64 0, .int .i64 0] 102)).alloc (.cells #[.slice none 0 0, .slice none 0 0, .int .i64 0] 60)) = W0 at HX0 HS0 HR0 HE0 HD0 HG0 HC0 ⊢
  obtain ⟨cs, fs⟩ := HS0.out.facts
  have hsl := HS0.out.lt
  obtain ⟨hcl0, c0, c1, c2, c3, c4, c5⟩ := HC0.out.six
  repeat (first | go_values | go_skip | go_guarded | go_step | go_upon)
  refine wp_loop_rounds 2 ?_
  rw [rounds_succ]
  have hxb : Ext W0 (W0.alloc (.cells #[.string ⟨#[97]⟩, .string ⟨#[]⟩, .int .i64 2, .bool false, .bool false, .bool false] 175)) := (Ext.refl W0).alloc _
  go_simp
  repeat (first | go_values | go_skip | go_guarded | go_step | go_upon)
  refine (KC.out _ (Ext.trans HX0.out hxb)).mono ?_
  rintro e w1 ⟨rfl, hb1⟩
  have hx1 := Ext.trans hxb hb1
  have HX1 := Lib.hid (Ext.trans HX0.out hx1)
  have HS1 := Lib.hid (HS0.out.keep hx1)
  have HR1 := Lib.hid (HR0.out.keep hx1)
  have HE1 := Lib.hid (HE0.out.keep hx1)
  have HD1 := Lib.hid (HD0.out.keep hx1)
  have HG1 := Lib.hid (HG0.out.keep hx1)
  have HC1 := Lib.hid (HC0.out.ext hx1)
  clear hxb hb1 hx1 HX0 HS0 HR0 HE0 HD0 HG0 HC0 cs fs c0 c1 c2 c3 c4 c5 KC
  unfold scA
  go_simp
  repeat (first | go_values | go_skip | go_guarded | go_step | go_upon)
  generalize (Question.appendCap 1 0 177).cut (w1.tape w1.drawn (Question.appendCap 1 0 177)) = kp
  have hxg : Ext w1 ((((w1.alloc (.cells #[.string ⟨#[97]⟩, .string ⟨#[98, 105, 110, 97, 114, 121]⟩, .int .i64 2, .int .i64 1, .int .i64 0, .bool false, .bool false, .pointer none, .bool false] 177)).alloc (.cells #[.string ⟨#[97]⟩, .string ⟨#[98, 105, 110, 97, 114, 121]⟩, .int .i64 2, .int .i64 1, .int .i64 0, .bool false, .bool false, .pointer none, .bool false] 177)).alloc (.cells ((#[.string ⟨#[97]⟩, .string ⟨#[98, 105, 110, 97, 114, 121]⟩, .int .i64 2, .int .i64 1, .int .i64 0, .bool false, .bool false, .pointer none, .bool false] : Array Value) ++ Builtin.zeroCells #[.string ⟨#[]⟩, .string ⟨#[]⟩, .int .i64 0, .int .i64 0, .int .i64 0, .bool false, .bool false, .pointer none, .bool false] (kp - 1)) 177)).drew) := ((((Ext.refl w1).alloc _).alloc _).alloc _).drew
  have HC2 := Lib.hid (show ColAt ((((w1.alloc (.cells #[.string ⟨#[97]⟩, .string ⟨#[98, 105, 110, 97, 114, 121]⟩, .int .i64 2, .int .i64 1, .int .i64 0, .bool false, .bool false, .pointer none, .bool false] 177)).alloc (.cells #[.string ⟨#[97]⟩, .string ⟨#[98, 105, 110, 97, 114, 121]⟩, .int .i64 2, .int .i64 1, .int .i64 0, .bool false, .bool false, .pointer none, .bool false] 177)).alloc (.cells ((#[.string ⟨#[97]⟩, .string ⟨#[98, 105, 110, 97, 114, 121]⟩, .int .i64 2, .int .i64 1, .int .i64 0, .bool false, .bool false, .pointer none, .bool false] : Array Value) ++ Builtin.zeroCells #[.string ⟨#[]⟩, .string ⟨#[]⟩, .int .i64 0, .int .i64 0, .int .i64 0, .bool false, .bool false, .pointer none, .bool false] (kp - 1)) 177)).drew) (w1.heap.size + 1 + 1) from ⟨((#[.string ⟨#[97]⟩, .string ⟨#[98, 105, 110, 97, 114, 121]⟩, .int .i64 2, .int .i64 1, .int .i64 0, .bool false, .bool false, .pointer none, .bool false] : Array Value) ++ Builtin.zeroCells #[.string ⟨#[]⟩, .string ⟨#[]⟩, .int .i64 0, .int .i64 0, .int .i64 0, .bool false, .bool false, .pointer none, .bool false] (kp - 1)), (Blk.new ((w1.alloc (.cells #[.string ⟨#[97]⟩, .string ⟨#[98, 105, 110, 97, 114, 121]⟩, .int .i64 2, .int .i64 1, .int .i64 0, .bool false, .bool false, .pointer none, .bool false] 177)).alloc (.cells #[.string ⟨#[97]⟩, .string ⟨#[98, 105, 110, 97, 114, 121]⟩, .int .i64 2, .int .i64 1, .int .i64 0, .bool false, .bool false, .pointer none, .bool false] 177)) ((#[.string ⟨#[97]⟩, .string ⟨#[98, 105, 110, 97, 114, 121]⟩, .int .i64 2, .int .i64 1, .int .i64 0, .bool false, .bool false, .pointer none, .bool false] : Array Value) ++ Builtin.zeroCells #[.string ⟨#[]⟩, .string ⟨#[]⟩, .int .i64 0, .int .i64 0, .int .i64 0, .bool false, .bool false, .pointer none, .bool false] (kp - 1)) 177 (by simp)).drew, by simp⟩)
  have HX2 := Lib.hid (Ext.trans HX1.out hxg)
  have HS2 := Lib.hid (HS1.out.keep hxg)
  have HR2 := Lib.hid (HR1.out.keep hxg)
  have HE2 := Lib.hid (HE1.out.keep hxg)
  have HD2 := Lib.hid (HD1.out.keep hxg)
  have HG2 := Lib.hid (HG1.out.keep hxg)
  have HP2 := Lib.hid (HC1.out.ext hxg)
  clear HX1 HS1 HR1 HE1 HD1 HG1 HC1 hxg
  generalize (((w1.alloc (.cells #[.string ⟨#[97]⟩, .string ⟨#[98, 105, 110, 97, 114, 121]⟩, .int .i64 2, .int .i64 1, .int .i64 0, .bool false, .bool false, .pointer none, .bool false] 177)).alloc (.cells #[.string ⟨#[97]⟩, .string ⟨#[98, 105, 110, 97, 114, 121]⟩, .int .i64 2, .int .i64 1, .int .i64 0, .bool false, .bool false, .pointer none, .bool false] 177)).alloc (.cells ((#[.string ⟨#[97]⟩, .string ⟨#[98, 105, 110, 97, 114, 121]⟩, .int .i64 2, .int .i64 1, .int .i64 0, .bool false, .bool false, .pointer none, .bool false] : Array Value) ++ Builtin.zeroCells #[.string ⟨#[]⟩, .string ⟨#[]⟩, .int .i64 0, .int .i64 0, .int .i64 0, .bool false, .bool false, .pointer none, .bool false] (kp - 1)) 177)).drew = W2 at HC2 HX2 HS2 HR2 HE2 HD2 HG2 HP2 ⊢
  generalize w1.heap.size + 1 + 1 = gs at HC2 ⊢
  rw [rounds_succ]
  go_simp
  go_upto_region 10 with (fail)
  have hnS : w.heap.size ≠ M1 := by omega
  have hnR : w.heap.size + 1 ≠ M1 := by omega
  have HF := Lib.hid (show ∀ W, LeP M1 W2 W → W.cell? ⟨gg, 4, none⟩ = some (.pointer (some ⟨d, 0, none⟩)) ∧ W.cell? ⟨w.heap.size, 1, none⟩ = some (.string ⟨#[116]⟩) from fun W hW => ⟨(hW.blk HE2.out hgM).cell 4, (hW.blk HS2.out hnS).cell 1⟩)
  refine wp_parZC 7 (leX) (leP M1) (LeP.ofExt) [0, 1, 2, 3, 4, 5, 6, 7, 8] 8 8 (fun
      | 0 => fun _ v _ => v = .pointer (some ⟨gg, 0, none⟩)
      | 1 => fun _ v _ => v = .pointer (some ⟨gg, 0, none⟩)
      | 2 => fun _ v _ => v = .pointer (some ⟨gg, 4, none⟩)
      | 3 => fun _ v _ => v = .pointer (some ⟨d, 0, none⟩)
      | 4 => fun _ v _ => v = .pointer (some ⟨w.heap.size, 1, none⟩)
      | 5 => fun _ v _ => v = .string ⟨#[116]⟩
      | 6 => fun _ v _ => v = .slice (some ⟨gs, 0, none⟩) 1 kp
      | 7 => fun _ => isZ
      | _ => fun _ _ _ => True) (fun
      | _ => undef) (by kernel_rfl) (by kernel_rfl) (by kernel_rfl) (by decide) ?_ ?_ ?_
  · simp (maxSteps := 20000000) only [permL, permOp, List.filterMap_cons, List.filterMap_nil, List.getElem?_cons_succ, List.getElem?_cons_zero, Option.map_some, Option.map_none, List.take_succ_cons, List.take_zero, ParAllC, Act.put, List.setIfInBounds_toArray, List.set_cons_succ, List.set_cons_zero]
    refine ⟨?_, ?_, ?_, ?_, ?_, ?_, ?_, ?_, trivial⟩
    · intro vals W hx hd
      rw [if_neg (by decide)] at hx
      have hW := HF.out W hx
      simp [PDepsG, pdeps, Region.binds, List.idxOf_cons] at hd
      refine ParObC.plain rfl ?_
      go_simp
      first | exact IsLe.refl (leX) _ | exact ⟨IsLe.refl (leX) _, fun _ _ => rfl⟩
    · intro vals W hx hd
      rw [if_neg (by decide)] at hx
      have hW := HF.out W hx
      simp [PDepsG, pdeps, Region.binds, List.idxOf_cons] at hd
      refine ParObC.plain rfl ?_
      go_simp
      first | exact IsLe.refl (leX) _ | exact ⟨IsLe.refl (leX) _, fun _ _ => rfl⟩
    · intro vals W hx hd
      rw [if_neg (by decide)] at hx
      have hW := HF.out W hx
      simp [PDepsG, pdeps, Region.binds, List.idxOf_cons] at hd
      refine ParObC.plain rfl ?_
      go_simp
      first | exact IsLe.refl (leX) _ | exact ⟨IsLe.refl (leX) _, fun _ _ => rfl⟩
    · intro vals W hx hd
      rw [if_neg (by decide)] at hx
      have hW := HF.out W hx
      simp [PDepsG, pdeps, Region.binds, List.idxOf_cons] at hd
      refine ParObC.plain rfl ?_
      go_simp
      first | exact IsLe.refl (leX) _ | exact ⟨IsLe.refl (leX) _, fun _ _ => rfl⟩
    · intro vals W hx hd
      rw [if_neg (by decide)] at hx
      have hW := HF.out W hx
      simp [PDepsG, pdeps, Region.binds, List.idxOf_cons] at hd
      refine ParObC.plain rfl ?_
      go_simp
      first | exact IsLe.refl (leX) _ | exact ⟨IsLe.refl (leX) _, fun _ _ => rfl⟩
    · intro vals W hx hd
      rw [if_neg (by decide)] at hx
      have hW := HF.out W hx
      simp [PDepsG, pdeps, Region.binds, List.idxOf_cons] at hd
      refine ParObC.plain rfl ?_
      go_simp
      first | exact IsLe.refl (leX) _ | exact ⟨IsLe.refl (leX) _, fun _ _ => rfl⟩
    · intro vals W hx hd
      rw [if_neg (by decide)] at hx
      have hW := HF.out W hx
      simp [PDepsG, pdeps, Region.binds, List.idxOf_cons] at hd
      refine ParObC.plain rfl ?_
      go_simp
      first | exact IsLe.refl (leX) _ | exact ⟨IsLe.refl (leX) _, fun _ _ => rfl⟩
    · intro vals W hx hd
      rw [if_pos (by decide)] at hx
      simp [PDepsG, pdeps, Region.binds, List.idxOf_cons] at hd
      refine ParObC.call rfl ?_
      go_simp
      refine (Y.storeCreate_ct d gs kp M1 M2 f W (HD2.out.keep hx) (HG2.out.keep hx) (HC2.out.ext hx)).mono ?_
      rintro e w9 ⟨rfl, hl9⟩
      exact ⟨_, rfl, hl9, fun w3 h3 => rfl⟩
  · simp (maxSteps := 20000000) only [permL, permOp, List.filterMap_cons, List.filterMap_nil, List.getElem?_cons_succ, List.getElem?_cons_zero, Option.map_some, Option.map_none, List.drop_succ_cons, List.drop_zero, List.take_succ_cons, List.take_zero, Nat.reduceSub, ZAll, ParEnd, Act.put, List.setIfInBounds_toArray, List.set_cons_succ, List.set_cons_zero]
  intro vals W hx hf hz
  simp (maxSteps := 20000000) only [permL, permOp, List.filterMap_cons, List.filterMap_nil, List.getElem?_cons_succ, List.getElem?_cons_zero, Option.map_some, Option.map_none, ParFactsG, List.take_succ_cons, List.take_zero, and_true, Nat.reduceAdd] at hf
  obtain ⟨f0, f1, f2, f3, f4, f5, f6, f7⟩ := hf
  clear hz
  simp (maxSteps := 20000000) only [permL, permOp, List.filterMap_cons, List.filterMap_nil, List.getElem?_cons_succ, List.getElem?_cons_zero, Option.map_some, Option.map_none, List.drop_succ_cons, List.drop_zero, List.take_succ_cons, List.take_zero, Nat.reduceSub, ParEnd, ZTail, Act.put, List.setIfInBounds_toArray, List.set_cons_succ, List.set_cons_zero, Nat.reduceAdd, f0, f1, f2, f3, f4, f5, f6]
  clear f0 f1 f2 f3 f4 f5 f6
  have HXW := Lib.hid ((LeP.ofExt (p := M1) HX2.out).trans hx)
  have HSW := Lib.hid (hx.blk HS2.out hnS)
  have HRW := Lib.hid (hx.blk HR2.out hnR)
  have HPW := Lib.hid (HP2.out.later hx hcM)
  have f7' : vals 7 = .int .i64 0 := f7
  clear f7 hx HF HX2 HS2 HR2 HE2 HD2 HG2 HP2 HC2
  obtain ⟨cs, fs⟩ := HSW.out.facts
  have hslW := HSW.out.lt
  obtain ⟨hclW, c0, c1, c2, c3, c4, c5⟩ := HPW.out.six
  generalize vals 7 = v7 at f7' ⊢
  subst f7'
  refine ⟨?_⟩
  go_simp
  repeat (first | go_values | go_skip | go_guarded | go_step | go_upon)
  refine wp_loop_rounds 2 ?_
  rw [rounds_succ]
  go_simp
  repeat (first | go_values | go_skip | go_guarded | go_step | go_upon)
  rw [rounds_succ]
  have hxc : Ext W (W.alloc (.cells #[.string ⟨#[97]⟩, .string ⟨#[]⟩, .int .i64 2, .bool false, .bool false, .bool false] 175)) := (Ext.refl W).alloc _
  have HR3 := Lib.hid (HRW.out.keep hxc)
  have HX3 := Lib.hid (HXW.out.trans (LeP.ofExt hxc))
  clear hxc HSW HRW HPW HXW
  go_simp
  go_wp2_with (generalize W.alloc (.cells #[.string ⟨#[97]⟩, .string ⟨#[]⟩, .int .i64 2, .bool false, .bool false, .bool false] 175) = W5 at HR3 HX3 ⊢; refine wpList_store_row rfl 60 (.tmp 4) (.tmp 103) rfl (w.heap.size + 1) #[.slice none 0 0, .slice none 0 0, .int .i64 0] rfl rfl 60 #[.slice none 0 0, .slice none 0 0, .int .i64 0] HR3.out infoRes rfl (by simp [Value.oneCell']) ?_)
  refine bodyPost_ret (ret_res3 rfl _ rfl rfl (setRow_heap _ (w.heap.size + 1) #[.slice none 0 0, .slice none 0 0, .int .i64 0] #[.slice none 0 0, .slice none 0 0, .int .i64 0] _ _ HR3.out)) rfl ?_
  exact ⟨rfl, HX3.out.row (by omega) #[.slice none 0 0, .slice none 0 0, .int .i64 0]⟩
end Go.Proofs.YtchpbdodlbghaaaGreatDoor
