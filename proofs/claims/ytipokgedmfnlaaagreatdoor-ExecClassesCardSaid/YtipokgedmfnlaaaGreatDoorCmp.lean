/-
  What a collation answers at two texts (Coll.Cmp), whatever its kind.
-/
import Derived.Test.YtipokgedmfnlaaaGreatDoorWeigh
import Derived.Test.YtipokgedmfnlaaaGreatDoorPutL
namespace Go.Proofs.YtipokgedmfnlaaaGreatDoor
open Go.RowKit Go.Lib
set_option maxRecDepth 100000

theorem cmpFold_any (kind level : Int) (shift back : Bool) (p : Option Addr) (a b : ByteArray) (w : World) (ha : a.size ≤ 100000) (hb : b.size ≤ 100000) (hT : ∀ W, Ext w W → Lib.Utf8Tabs 0 1 W) :
    Calls Tryz.prog 157 #[cV kind level shift back p, .string a, .string b] w fun e w' => e = .returned (.int .i64 (cmpL (bytesN (foldT a.data.toList)) (bytesN (foldT b.data.toList)))) ∧ Below w.heap.size w w' := by
  have HT := Lib.hid hT
  clear hT
  rw [show cV kind level shift back p = .agg #[.int .i64 kind, .int .i64 level, .bool shift, .bool back, .pointer p] from rfl]
  go_enter Tryz.func157, Tryz.ntmps157
  go_wp2_with fail
  have hx0 : Ext w (w.alloc (.cells #[.int .i64 kind, .int .i64 level, .bool shift, .bool back, .pointer p] 25)) := (Ext.refl w).alloc _
  generalize (w.alloc (.cells #[.int .i64 kind, .int .i64 level, .bool shift, .bool back, .pointer p] 25)) = W0 at hx0 ⊢
  have HX0 := Lib.hid hx0
  clear hx0
  refine (foldText_any a ha W0 (fun W hW => HT.out W (Ext.trans HX0.out hW))).mono ?_
  rintro e w2 ⟨rfl, hb2⟩
  have HX2 := Lib.hid (Ext.trans HX0.out hb2)
  clear hb2
  go_wp2_with fail
  refine (foldText_any b hb w2 (fun W hW => HT.out W (Ext.trans HX2.out hW))).mono ?_
  rintro e w3 ⟨rfl, hb3⟩
  have HX3 := Lib.hid (Ext.trans HX2.out hb3)
  clear hb3
  go_wp2_with fail
  refine (cmps_any _ _ _).mono ?_
  rintro e w4 ⟨rfl, rfl⟩
  go_wp2_with fail
  go_ret
  exact ⟨rfl, HX3.out⟩
def wayF (n : FuncId) : Value := .func (.func n) #[] #[]
def waysA : Array Value := #[wayF 93, wayF 93, wayF 157, wayF 158]
theorem infoWays : (Tryz.prog.info? 174).map (·.size) = some 4 := by kernel_rfl
theorem ret_ways {t : Tmp} {fn : Func} (h : fn.results = #[.cell t 174]) (tmps : Array Value) {w : World} {g : Nat} {cs : Array Value} (hc : cs.size = 4) (hp : tmps.getD t undef = .pointer (some ⟨g, 0, none⟩)) (hg : Blk w g cs 174) :
    (results fn tmps).run Tryz.prog w = .ok (.agg cs) w := by
  have hp' : tmps[t]?.getD undef = .pointer (some ⟨g, 0, none⟩) := by simpa using hp
  have hr := run_loadVar_row w g 174 174 cs (0, 0) _ hg Tryz.underlying174 rfl (by rw [hc]; kernel_rfl)
  simp [results, h, hp', asAddr, hr]
theorem ways_any (w : World) : Calls Tryz.prog 94 #[] w fun e w' => e = .returned (.agg waysA) ∧ Below w.heap.size w w' := by
  go_enter Tryz.func94, Tryz.ntmps94
  go_wp2_with (refine wpList_store_row rfl 174 (.tmp 0) (.tmp 1) rfl w.heap.size waysA rfl rfl 174 #[.nilFunc, .nilFunc, .nilFunc, .nilFunc] (Blk.new w _ _ rfl) infoWays rfl (by simp [waysA, wayF, Value.oneCell']) ?_)
  rw [World.setRow_alloc_new]
  refine bodyPost_ret (ret_ways rfl _ rfl rfl (Blk.new w _ _ rfl)) rfl ?_
  exact ⟨rfl, by go_grown⟩
theorem collOk_small (kind level : Int) (shift back : Bool) (p : Option Addr) (w : World) (hk : kind = 1 ∨ kind = 2) :
    Calls Tryz.prog 55 #[cV kind level shift back p] w fun e w' => e = .returned (.bool true) ∧ Below w.heap.size w w' := by
  rw [show cV kind level shift back p = .agg #[.int .i64 kind, .int .i64 level, .bool shift, .bool back, .pointer p] from rfl]
  rcases hk with rfl | rfl
  · go_enter Tryz.func55, Tryz.ntmps55
    go_wp2_with fail
    go_ret
    exact ⟨rfl, by go_grown⟩
  · go_enter Tryz.func55, Tryz.ntmps55
    go_wp2_with fail
    go_ret
    exact ⟨rfl, by go_grown⟩
theorem collOk_table (level : Int) (shift back : Bool) (p : Nat) (w : World) (h1 : 1 ≤ level) (h3 : level ≤ 3) :
    Calls Tryz.prog 55 #[cV 3 level shift back (some ⟨p, 0, none⟩)] w fun e w' => e = .returned (.bool true) ∧ Below w.heap.size w w' := by
  rw [show cV 3 level shift back (some ⟨p, 0, none⟩) = .agg #[.int .i64 3, .int .i64 level, .bool shift, .bool back, .pointer (some ⟨p, 0, none⟩)] from rfl]
  go_enter Tryz.func55, Tryz.ntmps55
  go_wp2_with fail
  go_ret
  exact ⟨rfl, by go_grown⟩
set_option maxHeartbeats 4000000 in
theorem cmp_way1 (level : Int) (shift back : Bool) (p : Option Addr) (a b : ByteArray) (r : Int) (w : World)
    (hcall : ∀ W, Ext w W → Calls Tryz.prog 93 #[cV 1 level shift back p, .string a, .string b] W fun e w' => e = .returned (.int .i64 r) ∧ Below W.heap.size W w') :
    Calls Tryz.prog 56 #[cV 1 level shift back p, .string a, .string b] w fun e w' => e = .returned (.int .i64 r) ∧ Below w.heap.size w w' := by
  have hidx : ∀ W, (Instr.index 174 (.agg waysA) (.int .i64 1)).run Tryz.prog W = .ok (.func (.func 93) #[] #[]) W := fun _ => by kernel_rfl
  have HCall := Lib.hid hcall
  have HOk := Lib.hid (fun W => collOk_small 1 level shift back p W (.inl rfl))
  rw [show ∀ x y z u, cV x y z u p = .agg #[.int .i64 x, .int .i64 y, .bool z, .bool u, .pointer p] from fun _ _ _ _ => rfl] at HCall HOk ⊢
  clear hcall
  go_enter Tryz.func56, Tryz.ntmps56
  go_wp2_with fail
  have hQ : Blk (w.alloc (.cells #[.int .i64 1, .int .i64 level, .bool shift, .bool back, .pointer p] 25)) w.heap.size #[.int .i64 1, .int .i64 level, .bool shift, .bool back, .pointer p] 25 := Blk.new w _ _ rfl
  have hx0 : Ext w (w.alloc (.cells #[.int .i64 1, .int .i64 level, .bool shift, .bool back, .pointer p] 25)) := (Ext.refl w).alloc _
  generalize (w.alloc (.cells #[.int .i64 1, .int .i64 level, .bool shift, .bool back, .pointer p] 25)) = W0 at hQ hx0 ⊢
  generalize w.heap.size = q at hQ ⊢
  refine (HOk.out W0).mono ?_
  rintro e w2 ⟨rfl, hb2⟩
  have hQ2 := hQ.keep hb2
  have HX2 := Lib.hid (Ext.trans hx0 hb2)
  have HF := Lib.hid (show ∀ W, Ext w2 W → W.cell? ⟨q, 0, none⟩ = some (.int .i64 1) ∧ W.cell? ⟨q, 1, none⟩ = some (.int .i64 level) ∧ W.cell? ⟨q, 2, none⟩ = some (.bool shift) ∧ W.cell? ⟨q, 3, none⟩ = some (.bool back) ∧ W.cell? ⟨q, 4, none⟩ = some (.pointer p) from
    fun W hW => ⟨(hQ2.keep hW).cell 0, (hQ2.keep hW).cell 1, (hQ2.keep hW).cell 2, (hQ2.keep hW).cell 3, (hQ2.keep hW).cell 4⟩)
  clear hQ hx0 hQ2 hb2
  go_simp
  go_wp2_with fail
  refine wp_par 9 (fun
      | 0 => fun v _ => v = .agg waysA
      | 1 => fun v _ => v = .pointer (some ⟨q, 0, none⟩)
      | 2 => fun v _ => v = .int .i64 1
      | 3 => fun v _ => v = .func (.func 93) #[] #[]
      | 4 => fun v _ => v = .agg #[.int .i64 1, .int .i64 level, .bool shift, .bool back, .pointer p]
      | 5 => fun v _ => v = .string a
      | 6 => fun v _ => v = .string b
      | 7 => fun v _ => v = .int .i64 r
      | 8 => fun v _ => v = .int .i64 r
      | _ => fun _ _ => True) (by kernel_rfl) (by kernel_rfl) (by kernel_rfl) ?_ ?_
  · simp (maxSteps := 20000000) only [List.take_succ_cons, List.take_zero, ParAll, Act.put, List.setIfInBounds_toArray, List.set_cons_succ, List.set_cons_zero]
    refine ⟨?_, ?_, ?_, ?_, ?_, ?_, ?_, ?_, ?_, trivial⟩
    · intro vals W hx hd
      have hW := HF.out W hx
      simp [PDeps, pdeps, Region.binds] at hd
      first
        | refine ParOb.plain rfl ?_
        | refine ParOb.wanted (by simp [Region.wanted, yielded, hd]) ?_
      go_simp
      refine (ways_any W).mono ?_
      rintro e w9 ⟨rfl, hb9⟩
      exact ⟨_, rfl, hb9, fun _ _ => rfl⟩
    · intro vals W hx hd
      have hW := HF.out W hx
      simp [PDeps, pdeps, Region.binds] at hd
      first
        | refine ParOb.plain rfl ?_
        | refine ParOb.wanted (by simp [Region.wanted, yielded, hd]) ?_
      go_simp
      exact ParPost.same fun _ _ => rfl
    · intro vals W hx hd
      have hW := HF.out W hx
      simp [PDeps, pdeps, Region.binds] at hd
      first
        | refine ParOb.plain rfl ?_
        | refine ParOb.wanted (by simp [Region.wanted, yielded, hd]) ?_
      go_simp
      exact ParPost.same fun _ _ => rfl
    · intro vals W hx hd
      have hW := HF.out W hx
      simp [PDeps, pdeps, Region.binds] at hd
      first
        | refine ParOb.plain rfl ?_
        | refine ParOb.wanted (by simp [Region.wanted, yielded, hd]) ?_
      go_simp
      exact ParPost.same fun _ _ => rfl
    · intro vals W hx hd
      have hW := HF.out W hx
      simp [PDeps, pdeps, Region.binds] at hd
      first
        | refine ParOb.plain rfl ?_
        | refine ParOb.wanted (by simp [Region.wanted, yielded, hd]) ?_
      go_simp
      exact ParPost.same fun _ _ => rfl
    · intro vals W hx hd
      have hW := HF.out W hx
      simp [PDeps, pdeps, Region.binds] at hd
      first
        | refine ParOb.plain rfl ?_
        | refine ParOb.wanted (by simp [Region.wanted, yielded, hd]) ?_
      go_simp
      exact ParPost.same fun _ _ => rfl
    · intro vals W hx hd
      have hW := HF.out W hx
      simp [PDeps, pdeps, Region.binds] at hd
      first
        | refine ParOb.plain rfl ?_
        | refine ParOb.wanted (by simp [Region.wanted, yielded, hd]) ?_
      go_simp
      exact ParPost.same fun _ _ => rfl
    · intro vals W hx hd
      have hW := HF.out W hx
      simp [PDeps, pdeps, Region.binds] at hd
      first
        | refine ParOb.plain rfl ?_
        | refine ParOb.wanted (by simp [Region.wanted, yielded, hd]) ?_
      go_simp
      refine (HCall.out W (Ext.trans HX2.out hx)).mono ?_
      rintro e w9 ⟨rfl, hb9⟩
      exact ⟨_, rfl, hb9, fun _ _ => rfl⟩
    · intro vals W hx hd
      have hW := HF.out W hx
      simp [PDeps, pdeps, Region.binds] at hd
      first
        | refine ParOb.plain rfl ?_
        | refine ParOb.wanted (by simp [Region.wanted, yielded, hd]) ?_
      go_simp
      exact ParPost.same fun _ _ => rfl
  intro vals W hx hf
  simp (maxSteps := 20000000) only [ParFacts, List.take_succ_cons, List.take_zero, and_true] at hf
  simp (maxSteps := 20000000) only [List.drop_succ_cons, List.drop_zero, List.take_succ_cons, List.take_zero, ParEnd, Act.put, List.setIfInBounds_toArray, List.set_cons_succ, List.set_cons_zero, hf]
  clear hf
  have HX3 := Lib.hid (Ext.trans HX2.out hx)
  clear hx HF
  go_wp2_with fail
  go_ret
  exact ⟨rfl, HX3.out⟩
set_option maxHeartbeats 4000000 in
theorem cmp_way2 (level : Int) (shift back : Bool) (p : Option Addr) (a b : ByteArray) (r : Int) (w : World)
    (hcall : ∀ W, Ext w W → Calls Tryz.prog 157 #[cV 2 level shift back p, .string a, .string b] W fun e w' => e = .returned (.int .i64 r) ∧ Below W.heap.size W w') :
    Calls Tryz.prog 56 #[cV 2 level shift back p, .string a, .string b] w fun e w' => e = .returned (.int .i64 r) ∧ Below w.heap.size w w' := by
  have hidx : ∀ W, (Instr.index 174 (.agg waysA) (.int .i64 2)).run Tryz.prog W = .ok (.func (.func 157) #[] #[]) W := fun _ => by kernel_rfl
  have HCall := Lib.hid hcall
  have HOk := Lib.hid (fun W => collOk_small 2 level shift back p W (.inr rfl))
  rw [show ∀ x y z u, cV x y z u p = .agg #[.int .i64 x, .int .i64 y, .bool z, .bool u, .pointer p] from fun _ _ _ _ => rfl] at HCall HOk ⊢
  clear hcall
  go_enter Tryz.func56, Tryz.ntmps56
  go_wp2_with fail
  have hQ : Blk (w.alloc (.cells #[.int .i64 2, .int .i64 level, .bool shift, .bool back, .pointer p] 25)) w.heap.size #[.int .i64 2, .int .i64 level, .bool shift, .bool back, .pointer p] 25 := Blk.new w _ _ rfl
  have hx0 : Ext w (w.alloc (.cells #[.int .i64 2, .int .i64 level, .bool shift, .bool back, .pointer p] 25)) := (Ext.refl w).alloc _
  generalize (w.alloc (.cells #[.int .i64 2, .int .i64 level, .bool shift, .bool back, .pointer p] 25)) = W0 at hQ hx0 ⊢
  generalize w.heap.size = q at hQ ⊢
  refine (HOk.out W0).mono ?_
  rintro e w2 ⟨rfl, hb2⟩
  have hQ2 := hQ.keep hb2
  have HX2 := Lib.hid (Ext.trans hx0 hb2)
  have HF := Lib.hid (show ∀ W, Ext w2 W → W.cell? ⟨q, 0, none⟩ = some (.int .i64 2) ∧ W.cell? ⟨q, 1, none⟩ = some (.int .i64 level) ∧ W.cell? ⟨q, 2, none⟩ = some (.bool shift) ∧ W.cell? ⟨q, 3, none⟩ = some (.bool back) ∧ W.cell? ⟨q, 4, none⟩ = some (.pointer p) from
    fun W hW => ⟨(hQ2.keep hW).cell 0, (hQ2.keep hW).cell 1, (hQ2.keep hW).cell 2, (hQ2.keep hW).cell 3, (hQ2.keep hW).cell 4⟩)
  clear hQ hx0 hQ2 hb2
  go_simp
  go_wp2_with fail
  refine wp_par 9 (fun
      | 0 => fun v _ => v = .agg waysA
      | 1 => fun v _ => v = .pointer (some ⟨q, 0, none⟩)
      | 2 => fun v _ => v = .int .i64 2
      | 3 => fun v _ => v = .func (.func 157) #[] #[]
      | 4 => fun v _ => v = .agg #[.int .i64 2, .int .i64 level, .bool shift, .bool back, .pointer p]
      | 5 => fun v _ => v = .string a
      | 6 => fun v _ => v = .string b
      | 7 => fun v _ => v = .int .i64 r
      | 8 => fun v _ => v = .int .i64 r
      | _ => fun _ _ => True) (by kernel_rfl) (by kernel_rfl) (by kernel_rfl) ?_ ?_
  · simp (maxSteps := 20000000) only [List.take_succ_cons, List.take_zero, ParAll, Act.put, List.setIfInBounds_toArray, List.set_cons_succ, List.set_cons_zero]
    refine ⟨?_, ?_, ?_, ?_, ?_, ?_, ?_, ?_, ?_, trivial⟩
    · intro vals W hx hd
      have hW := HF.out W hx
      simp [PDeps, pdeps, Region.binds] at hd
      first
        | refine ParOb.plain rfl ?_
        | refine ParOb.wanted (by simp [Region.wanted, yielded, hd]) ?_
      go_simp
      refine (ways_any W).mono ?_
      rintro e w9 ⟨rfl, hb9⟩
      exact ⟨_, rfl, hb9, fun _ _ => rfl⟩
    · intro vals W hx hd
      have hW := HF.out W hx
      simp [PDeps, pdeps, Region.binds] at hd
      first
        | refine ParOb.plain rfl ?_
        | refine ParOb.wanted (by simp [Region.wanted, yielded, hd]) ?_
      go_simp
      exact ParPost.same fun _ _ => rfl
    · intro vals W hx hd
      have hW := HF.out W hx
      simp [PDeps, pdeps, Region.binds] at hd
      first
        | refine ParOb.plain rfl ?_
        | refine ParOb.wanted (by simp [Region.wanted, yielded, hd]) ?_
      go_simp
      exact ParPost.same fun _ _ => rfl
    · intro vals W hx hd
      have hW := HF.out W hx
      simp [PDeps, pdeps, Region.binds] at hd
      first
        | refine ParOb.plain rfl ?_
        | refine ParOb.wanted (by simp [Region.wanted, yielded, hd]) ?_
      go_simp
      exact ParPost.same fun _ _ => rfl
    · intro vals W hx hd
      have hW := HF.out W hx
      simp [PDeps, pdeps, Region.binds] at hd
      first
        | refine ParOb.plain rfl ?_
        | refine ParOb.wanted (by simp [Region.wanted, yielded, hd]) ?_
      go_simp
      exact ParPost.same fun _ _ => rfl
    · intro vals W hx hd
      have hW := HF.out W hx
      simp [PDeps, pdeps, Region.binds] at hd
      first
        | refine ParOb.plain rfl ?_
        | refine ParOb.wanted (by simp [Region.wanted, yielded, hd]) ?_
      go_simp
      exact ParPost.same fun _ _ => rfl
    · intro vals W hx hd
      have hW := HF.out W hx
      simp [PDeps, pdeps, Region.binds] at hd
      first
        | refine ParOb.plain rfl ?_
        | refine ParOb.wanted (by simp [Region.wanted, yielded, hd]) ?_
      go_simp
      exact ParPost.same fun _ _ => rfl
    · intro vals W hx hd
      have hW := HF.out W hx
      simp [PDeps, pdeps, Region.binds] at hd
      first
        | refine ParOb.plain rfl ?_
        | refine ParOb.wanted (by simp [Region.wanted, yielded, hd]) ?_
      go_simp
      refine (HCall.out W (Ext.trans HX2.out hx)).mono ?_
      rintro e w9 ⟨rfl, hb9⟩
      exact ⟨_, rfl, hb9, fun _ _ => rfl⟩
    · intro vals W hx hd
      have hW := HF.out W hx
      simp [PDeps, pdeps, Region.binds] at hd
      first
        | refine ParOb.plain rfl ?_
        | refine ParOb.wanted (by simp [Region.wanted, yielded, hd]) ?_
      go_simp
      exact ParPost.same fun _ _ => rfl
  intro vals W hx hf
  simp (maxSteps := 20000000) only [ParFacts, List.take_succ_cons, List.take_zero, and_true] at hf
  simp (maxSteps := 20000000) only [List.drop_succ_cons, List.drop_zero, List.take_succ_cons, List.take_zero, ParEnd, Act.put, List.setIfInBounds_toArray, List.set_cons_succ, List.set_cons_zero, hf]
  clear hf
  have HX3 := Lib.hid (Ext.trans HX2.out hx)
  clear hx HF
  go_wp2_with fail
  go_ret
  exact ⟨rfl, HX3.out⟩
set_option maxHeartbeats 4000000 in
theorem cmp_way3 (level : Int) (shift back : Bool) (p : Nat) (a b : ByteArray) (r : Int) (w : World) (h1 : 1 ≤ level) (h3 : level ≤ 3)
    (hcall : ∀ W, Ext w W → Calls Tryz.prog 158 #[cV 3 level shift back (some ⟨p, 0, none⟩), .string a, .string b] W fun e w' => e = .returned (.int .i64 r) ∧ Below W.heap.size W w') :
    Calls Tryz.prog 56 #[cV 3 level shift back (some ⟨p, 0, none⟩), .string a, .string b] w fun e w' => e = .returned (.int .i64 r) ∧ Below w.heap.size w w' := by
  have hidx : ∀ W, (Instr.index 174 (.agg waysA) (.int .i64 3)).run Tryz.prog W = .ok (.func (.func 158) #[] #[]) W := fun _ => by kernel_rfl
  have HCall := Lib.hid hcall
  have HOk := Lib.hid (fun W => collOk_table level shift back p W h1 h3)
  rw [show ∀ x y z u, cV x y z u (some ⟨p, 0, none⟩) = .agg #[.int .i64 x, .int .i64 y, .bool z, .bool u, .pointer (some ⟨p, 0, none⟩)] from fun _ _ _ _ => rfl] at HCall HOk ⊢
  clear hcall
  go_enter Tryz.func56, Tryz.ntmps56
  go_wp2_with fail
  have hQ : Blk (w.alloc (.cells #[.int .i64 3, .int .i64 level, .bool shift, .bool back, .pointer (some ⟨p, 0, none⟩)] 25)) w.heap.size #[.int .i64 3, .int .i64 level, .bool shift, .bool back, .pointer (some ⟨p, 0, none⟩)] 25 := Blk.new w _ _ rfl
  have hx0 : Ext w (w.alloc (.cells #[.int .i64 3, .int .i64 level, .bool shift, .bool back, .pointer (some ⟨p, 0, none⟩)] 25)) := (Ext.refl w).alloc _
  generalize (w.alloc (.cells #[.int .i64 3, .int .i64 level, .bool shift, .bool back, .pointer (some ⟨p, 0, none⟩)] 25)) = W0 at hQ hx0 ⊢
  generalize w.heap.size = q at hQ ⊢
  refine (HOk.out W0).mono ?_
  rintro e w2 ⟨rfl, hb2⟩
  have hQ2 := hQ.keep hb2
  have HX2 := Lib.hid (Ext.trans hx0 hb2)
  have HF := Lib.hid (show ∀ W, Ext w2 W → W.cell? ⟨q, 0, none⟩ = some (.int .i64 3) ∧ W.cell? ⟨q, 1, none⟩ = some (.int .i64 level) ∧ W.cell? ⟨q, 2, none⟩ = some (.bool shift) ∧ W.cell? ⟨q, 3, none⟩ = some (.bool back) ∧ W.cell? ⟨q, 4, none⟩ = some (.pointer (some ⟨p, 0, none⟩)) from
    fun W hW => ⟨(hQ2.keep hW).cell 0, (hQ2.keep hW).cell 1, (hQ2.keep hW).cell 2, (hQ2.keep hW).cell 3, (hQ2.keep hW).cell 4⟩)
  clear hQ hx0 hQ2 hb2
  go_simp
  go_wp2_with fail
  refine wp_par 9 (fun
      | 0 => fun v _ => v = .agg waysA
      | 1 => fun v _ => v = .pointer (some ⟨q, 0, none⟩)
      | 2 => fun v _ => v = .int .i64 3
      | 3 => fun v _ => v = .func (.func 158) #[] #[]
      | 4 => fun v _ => v = .agg #[.int .i64 3, .int .i64 level, .bool shift, .bool back, .pointer (some ⟨p, 0, none⟩)]
      | 5 => fun v _ => v = .string a
      | 6 => fun v _ => v = .string b
      | 7 => fun v _ => v = .int .i64 r
      | 8 => fun v _ => v = .int .i64 r
      | _ => fun _ _ => True) (by kernel_rfl) (by kernel_rfl) (by kernel_rfl) ?_ ?_
  · simp (maxSteps := 20000000) only [List.take_succ_cons, List.take_zero, ParAll, Act.put, List.setIfInBounds_toArray, List.set_cons_succ, List.set_cons_zero]
    refine ⟨?_, ?_, ?_, ?_, ?_, ?_, ?_, ?_, ?_, trivial⟩
    · intro vals W hx hd
      have hW := HF.out W hx
      simp [PDeps, pdeps, Region.binds] at hd
      first
        | refine ParOb.plain rfl ?_
        | refine ParOb.wanted (by simp [Region.wanted, yielded, hd]) ?_
      go_simp
      refine (ways_any W).mono ?_
      rintro e w9 ⟨rfl, hb9⟩
      exact ⟨_, rfl, hb9, fun _ _ => rfl⟩
    · intro vals W hx hd
      have hW := HF.out W hx
      simp [PDeps, pdeps, Region.binds] at hd
      first
        | refine ParOb.plain rfl ?_
        | refine ParOb.wanted (by simp [Region.wanted, yielded, hd]) ?_
      go_simp
      exact ParPost.same fun _ _ => rfl
    · intro vals W hx hd
      have hW := HF.out W hx
      simp [PDeps, pdeps, Region.binds] at hd
      first
        | refine ParOb.plain rfl ?_
        | refine ParOb.wanted (by simp [Region.wanted, yielded, hd]) ?_
      go_simp
      exact ParPost.same fun _ _ => rfl
    · intro vals W hx hd
      have hW := HF.out W hx
      simp [PDeps, pdeps, Region.binds] at hd
      first
        | refine ParOb.plain rfl ?_
        | refine ParOb.wanted (by simp [Region.wanted, yielded, hd]) ?_
      go_simp
      exact ParPost.same fun _ _ => rfl
    · intro vals W hx hd
      have hW := HF.out W hx
      simp [PDeps, pdeps, Region.binds] at hd
      first
        | refine ParOb.plain rfl ?_
        | refine ParOb.wanted (by simp [Region.wanted, yielded, hd]) ?_
      go_simp
      exact ParPost.same fun _ _ => rfl
    · intro vals W hx hd
      have hW := HF.out W hx
      simp [PDeps, pdeps, Region.binds] at hd
      first
        | refine ParOb.plain rfl ?_
        | refine ParOb.wanted (by simp [Region.wanted, yielded, hd]) ?_
      go_simp
      exact ParPost.same fun _ _ => rfl
    · intro vals W hx hd
      have hW := HF.out W hx
      simp [PDeps, pdeps, Region.binds] at hd
      first
        | refine ParOb.plain rfl ?_
        | refine ParOb.wanted (by simp [Region.wanted, yielded, hd]) ?_
      go_simp
      exact ParPost.same fun _ _ => rfl
    · intro vals W hx hd
      have hW := HF.out W hx
      simp [PDeps, pdeps, Region.binds] at hd
      first
        | refine ParOb.plain rfl ?_
        | refine ParOb.wanted (by simp [Region.wanted, yielded, hd]) ?_
      go_simp
      refine (HCall.out W (Ext.trans HX2.out hx)).mono ?_
      rintro e w9 ⟨rfl, hb9⟩
      exact ⟨_, rfl, hb9, fun _ _ => rfl⟩
    · intro vals W hx hd
      have hW := HF.out W hx
      simp [PDeps, pdeps, Region.binds] at hd
      first
        | refine ParOb.plain rfl ?_
        | refine ParOb.wanted (by simp [Region.wanted, yielded, hd]) ?_
      go_simp
      exact ParPost.same fun _ _ => rfl
  intro vals W hx hf
  simp (maxSteps := 20000000) only [ParFacts, List.take_succ_cons, List.take_zero, and_true] at hf
  simp (maxSteps := 20000000) only [List.drop_succ_cons, List.drop_zero, List.take_succ_cons, List.take_zero, ParEnd, Act.put, List.setIfInBounds_toArray, List.set_cons_succ, List.set_cons_zero, hf]
  clear hf
  have HX3 := Lib.hid (Ext.trans HX2.out hx)
  clear hx HF
  go_wp2_with fail
  go_ret
  exact ⟨rfl, HX3.out⟩
/-- What a collation answers at two texts: by bytes, folded. -/
theorem cmpAt_small (kind : Int) (lv : Int) (shift : Bool) (p : Option Addr) (a b : ByteArray) (w : World) (hk : kind = 1 ∨ kind = 2) (ha : a.size ≤ 100000) (hb : b.size ≤ 100000) (hT : ∀ W, Ext w W → Lib.Utf8Tabs 0 1 W) :
    CmpAt w kind lv shift false p a b (collC kind 0 shift false a.data.toList b.data.toList) := by
  intro W hW
  rcases hk with rfl | rfl
  · exact cmp_way1 lv shift false p a b _ W fun W2 h2 => cmpBinary_any 1 lv shift false _ a b W2
  · exact cmp_way2 lv shift false p a b _ W fun W2 h2 => cmpFold_any 2 lv shift false _ a b W2 ha hb (fun W3 h3 => hT W3 (Ext.trans (Ext.trans hW h2) h3))
/-- .. by weights. -/
theorem cmpAt_table (lv : Nat) (shift : Bool) (p : Nat) (a b : ByteArray) (w : World) (h1 : 1 ≤ lv) (h3 : lv ≤ 3) (hp : RootAt w p) (ha : a.size ≤ 100000) (hb : b.size ≤ 100000) (hT : ∀ W, Ext w W → Lib.Utf8Tabs 0 1 W) :
    CmpAt w 3 lv shift false (some ⟨p, 0, none⟩) a b (collC 3 lv shift false a.data.toList b.data.toList) := by
  intro W hW
  exact cmp_way3 lv shift false p a b _ W (by omega) (by omega) fun W2 h2 => weigh_any 3 lv shift p a b W2 (hp.ext (Ext.trans hW h2)) ha hb ⟨h1, h3⟩ (fun W3 h3 => hT W3 (Ext.trans (Ext.trans hW h2) h3))
end Go.Proofs.YtipokgedmfnlaaaGreatDoor
