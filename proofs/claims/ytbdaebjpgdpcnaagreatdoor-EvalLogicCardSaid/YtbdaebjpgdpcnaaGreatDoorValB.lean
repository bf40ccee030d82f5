/-
  Values: sameness, printing; the law's own collation of bytes.
-/
import Derived.Test.YtbdaebjpgdpcnaaGreatDoorVal
import Derived.Test.YtbdaebjpgdpcnaaGreatDoorShelf
namespace Go.Proofs.YtbdaebjpgdpcnaaGreatDoor
open Go.RowKit
set_option maxRecDepth 100000

theorem valsame_any (k n : Int) (s : ByteArray) (k' n' : Int) (s' : ByteArray) (kind level : Int) (shift back : Bool) (p : Option Addr) (r : Int) (w : World)
    (hC : cK k n s = 3 → CmpAt w kind level shift back p (cS k n s) (cS k' n' s') r) :
    Calls Tryz.prog 29 #[vV k n s, vV k' n' s', cV kind level shift back p] w fun e w' => e = .returned (.bool (vOrd k n s k' n' s' r == 0)) ∧ Below w.heap.size w w' := by
  have HC := Lib.hid hC
  clear hC
  have hV : ∀ k n s, vV k n s = .agg #[.int .i64 k, .int .i64 n, .string s] := fun _ _ _ => rfl
  rw [hV, hV, show cV kind level shift back p = .agg #[.int .i64 kind, .int .i64 level, .bool shift, .bool back, .pointer p] from rfl]
  clear hV
  go_enter Tryz.func29, Tryz.ntmps29
  go_wp2_with fail
  refine (valorder_any k n s k' n' s' kind level shift back p r _ (fun h => (HC.out h).ext (show Below _ _ _ by go_grown))).mono ?_
  rintro e w2 ⟨rfl, hb⟩
  have HB := Lib.hid (show Below w.heap.size w w2 from Below.trans (by go_grown) (hb.mono (by simp; omega)))
  clear hb
  go_wp2_with fail
  go_ret
  exact ⟨rfl, HB.out⟩
/-- The document's collation's value. -/
def rV (kind level : Int) (shift back : Bool) (t : Value) : Value := .agg #[.int .i64 kind, .int .i64 level, .bool shift, .bool back, t]
set_option maxHeartbeats 2000000 in
theorem make_small (kind level : Int) (shift back : Bool) (s : ByteArray) (w : World) (hk : kind = 1 ∨ kind = 2) :
    Calls Tryz.prog 25 #[.int .i64 kind, .int .i64 level, .bool shift, .bool back, .string s] w fun e w' =>
      e = .returned (.tuple #[cV kind 0 false false none, rV kind 0 false false (.slice none 0 0), .bool true]) ∧ Below w.heap.size w w' := by
  rcases hk with rfl | rfl
  all_goals
    go_enter Tryz.func25, Tryz.ntmps25
    go_wp2_with fail
  · exact bodyPost_ret (v := .tuple #[cV 1 0 false false none, rV 1 0 false false (.slice none 0 0), .bool true]) (by simp [results, Tryz.results25, go_sem, cV, rV]) rfl ⟨rfl, by go_grown⟩
  · exact bodyPost_ret (v := .tuple #[cV 2 0 false false none, rV 2 0 false false (.slice none 0 0), .bool true]) (by simp [results, Tryz.results25, go_sem, cV, rV]) rfl ⟨rfl, by go_grown⟩
/-! ### Printing -/
/-- What is leaned on of the library's variables. -/
structure Glob (w : World) : Prop where
  maxLen : ∃ m, w.cell? ⟨1, 0, none⟩ = some (.int .i64 m)
  tabs : Lib.Utf8Tabs 2 3 w
  size : 1 < w.heap.size
def itS : ByteArray := ⟨#[105, 116, 39, 115]⟩
def itQ : ByteArray := ⟨#[39, 105, 116, 39, 39, 115, 39]⟩
theorem its_eq : (itQ.toList == [39, 105, 116, 39, 39, 115, 39]) = true := by decide +kernel
theorem cmp35 : vCmp 2 3 emp 2 5 emp 0 = .tuple #[.int .i64 (-1), .bool true, .int .i64 0] := by
  have h1 : cK 2 3 emp = 2 := by decide +kernel
  have h2 : cK 2 5 emp = 2 := by decide +kernel
  have h3 : alikeV 2 0 (cN 2 3 emp) (cN 2 5 emp) = -1 := by decide +kernel
  rw [vCmp, h1, h2, h3]
  rfl
theorem ord00 : (vOrd 0 0 emp 0 0 emp 0 == 0) = true := by decide +kernel
theorem val_field : ∀ w : World, (Instr.field 23 (vV 1 1 emp) 1).run Tryz.prog w = .ok (.int .i64 1) w := fun _ => by kernel_rfl
set_option maxHeartbeats 1000000 in
theorem valprint_its (w : World) (hM : ∃ m, w.cell? ⟨1, 0, none⟩ = some (.int .i64 m) ∧ 1 < w.heap.size) :
    Calls Tryz.prog 8 #[vV 3 0 itS] w fun e w' => e = .returned (.string itQ) ∧ Below w.heap.size w w' := by
  obtain ⟨m, hm, hsz⟩ := hM
  have HM := Lib.hid hm
  clear hm
  rw [show vV 3 0 itS = .agg #[.int .i64 3, .int .i64 0, .string itS] from rfl]
  go_enter Tryz.func8, Tryz.ntmps8
  go_wp2_with fail
  refine (valis_any 3 0 itS _).mono ?_
  rintro e w1 ⟨rfl, hb⟩
  rw [show vV (cK 3 0 itS) (cN 3 0 itS) (cS 3 0 itS) = .agg #[.int .i64 3, .int .i64 0, .string itS] from rfl]
  have hA := (Blk.new w #[.int .i64 3, .int .i64 0, .string itS] 23 rfl).keep hb
  have hB0 : Below w.heap.size w w1 := Below.trans (by go_grown) (hb.mono (by simp))
  have HA := Lib.hid hA
  have HB := Lib.hid hB0
  obtain ⟨ca, fa⟩ := hA.facts
  clear hA hb hB0
  go_wp2_with fail
  have hb3 := below3 HB.out (Nat.le_refl _) (.int .i64 3) (.int .i64 0) (.string itS)
  have hm3 : (((w1.setCell ⟨w.heap.size, 0, none⟩ (.int .i64 3)).setCell ⟨w.heap.size, 1, none⟩ (.int .i64 0)).setCell ⟨w.heap.size, 2, none⟩ (.string itS)).cell? ⟨1, 0, none⟩ = some (.int .i64 m) := (hb3.cell (p := ⟨1, 0, none⟩) hsz).trans HM.out
  have HB3 := Lib.hid hb3
  clear hb3 ca fa
  generalize (((w1.setCell ⟨w.heap.size, 0, none⟩ (.int .i64 3)).setCell ⟨w.heap.size, 1, none⟩ (.int .i64 0)).setCell ⟨w.heap.size, 2, none⟩ (.string itS)) = W3 at hm3 HB3 ⊢
  refine (Tryz.strings_ReplaceAll itS ⟨#[39]⟩ ⟨#[39, 39]⟩ m W3 (by decide) hm3 (by decide) (by decide)).mono ?_
  rintro e w4 ⟨rfl, hb4⟩
  have HB4 := Lib.hid (HB3.out.trans (hb4.mono HB3.out.size))
  clear hb4 hm3
  rw [show Lib.replaceAll itS.data.toList (ByteArray.mk #[39]).data.toList (ByteArray.mk #[39, 39]).data.toList = [105, 116, 39, 39, 115] by decide +kernel]
  go_wp2_with fail
  go_ret
  exact ⟨rfl, HB4.out⟩
theorem Glob.keep {w w' : World} (h : Glob w) (hb : Below w.heap.size w w') : Glob w' := by
  obtain ⟨m, hm⟩ := h.maxLen
  refine ⟨⟨m, by rw [hb.cell (p := ⟨1, 0, none⟩) h.size]; exact hm⟩, ?_, Nat.lt_of_lt_of_le h.size hb.size⟩
  exact ⟨fun c hc => (hb.cell (World.block_lt_of_cell? w _ (h.tabs.1 c hc))).trans (h.tabs.1 c hc),
    fun i hi => ⟨(hb.cell (World.block_lt_of_cell? w _ (h.tabs.2 i hi).1)).trans (h.tabs.2 i hi).1, (hb.cell (World.block_lt_of_cell? w _ (h.tabs.2 i hi).2)).trans (h.tabs.2 i hi).2⟩⟩
theorem Glob.its {w : World} (h : Glob w) : ∃ m, w.cell? ⟨1, 0, none⟩ = some (.int .i64 m) ∧ 1 < w.heap.size := by
  obtain ⟨m, hm⟩ := h.maxLen
  exact ⟨m, hm, h.size⟩
set_option maxHeartbeats 4000000 in
theorem valawake_any (w : World) (hG : Glob w) :
    Calls Tryz.prog 7 #[] w fun e w' => e = .returned (.bool true) ∧ Below w.heap.size w w' := by
  go_enter Tryz.func7, Tryz.ntmps7
  go_wp2_with fail
  refine (make_small 1 0 false false ⟨#[]⟩ w (.inl rfl)).mono ?_
  rintro e w1 ⟨rfl, hb⟩
  have HB := Lib.hid hb
  clear hb
  simp only [cV, rV]
  go_wp2_with fail
  have hA := (Blk.new w1 #[.int .i64 1, .int .i64 0, .bool false, .bool false, .pointer none] 58 rfl).alloc (.cells #[.int .i64 1, .int .i64 0, .bool false, .bool false, .slice none 0 0] 63)
  have hb0 : Below w.heap.size w ((w1.alloc (.cells #[.int .i64 1, .int .i64 0, .bool false, .bool false, .pointer none] 58)).alloc (.cells #[.int .i64 1, .int .i64 0, .bool false, .bool false, .slice none 0 0] 63)) := (HB.out.alloc HB.out.size _).alloc (Nat.le_trans HB.out.size (by simp)) _
  generalize hr : w1.heap.size = R at hA
  generalize ((w1.alloc (.cells #[.int .i64 1, .int .i64 0, .bool false, .bool false, .pointer none] 58)).alloc (.cells #[.int .i64 1, .int .i64 0, .bool false, .bool false, .slice none 0 0] 63)) = W0 at hA hb0 ⊢
  have HA := Lib.hid hA
  have HB0 := Lib.hid hb0
  have HF := Lib.hid (show ∀ W, Ext W0 W → (∀ o, W.cell? ⟨R, o, none⟩ = #[.int .i64 1, .int .i64 0, .bool false, .bool false, .pointer none][o]?) from fun W hW => (HA.out.keep hW).cell)
  clear hA hb0 hr
  refine wp_par 11 (fun
      | 0 => fun v _ => v = vV 2 3 emp
      | 1 => fun v _ => v = vV 2 5 emp
      | 2 => fun v _ => v = cV 1 0 false false none
      | 3 => fun v _ => v = .tuple #[.int .i64 (-1), .bool true, .int .i64 0]
      | 4 => fun v _ => v = .tuple #[.int .i64 (-1), .bool true, .int .i64 0]
      | 5 => fun v _ => v = .int .i64 (-1)
      | 6 => fun v _ => v = .bool true
      | 7 => fun v _ => v = .int .i64 0
      | 8 => fun v _ => v = .int .i64 (-1)
      | 9 => fun v _ => v = .bool true
      | 10 => fun v _ => v = .int .i64 0
      | _ => fun _ _ => True) (by kernel_rfl) (by kernel_rfl) (by kernel_rfl) ?_ ?_
  · simp (maxSteps := 20000000) only [List.take_succ_cons, List.take_zero, ParAll, Act.put, List.setIfInBounds_toArray, List.set_cons_succ, List.set_cons_zero]
    refine ⟨?_, ?_, ?_, ?_, ?_, ?_, ?_, ?_, ?_, ?_, ?_, trivial⟩
    · intro vals W hx hd
      have hW := HF.out W hx
      simp [PDeps, pdeps, Region.binds] at hd
      first
        | refine ParOb.plain rfl ?_
        | refine ParOb.wanted (by simp [Region.wanted, yielded, hd]) ?_
      go_simp
      refine (valint_any 3 W).mono ?_
      rintro e w2 ⟨rfl, hb2⟩
      exact ⟨_, rfl, hb2, fun _ _ => rfl⟩
    · intro vals W hx hd
      have hW := HF.out W hx
      simp [PDeps, pdeps, Region.binds] at hd
      first
        | refine ParOb.plain rfl ?_
        | refine ParOb.wanted (by simp [Region.wanted, yielded, hd]) ?_
      go_simp
      refine (valint_any 5 W).mono ?_
      rintro e w2 ⟨rfl, hb2⟩
      exact ⟨_, rfl, hb2, fun _ _ => rfl⟩
    · intro vals W hx hd
      have hW := HF.out W hx
      simp [PDeps, pdeps, Region.binds] at hd
      first
        | refine ParOb.plain rfl ?_
        | refine ParOb.wanted (by simp [Region.wanted, yielded, hd]) ?_
      go_simp
      exact ParPost.same fun _ _ => rfl
    · intro vals W hx hd
      have hW := HF.out W hx
      simp [PDeps, pdeps, Region.binds] at hd
      first
        | refine ParOb.plain rfl ?_
        | refine ParOb.wanted (by simp [Region.wanted, yielded, hd]) ?_
      go_simp
      refine (valcmp_any 2 3 emp 2 5 emp 1 0 false false none 0 W (fun h => absurd h (by decide +kernel))).mono ?_
      rintro e w2 ⟨rfl, hb2⟩
      exact ⟨_, rfl, hb2, fun _ _ => cmp35⟩
    · intro vals W hx hd
      have hW := HF.out W hx
      simp [PDeps, pdeps, Region.binds] at hd
      first
        | refine ParOb.plain rfl ?_
        | refine ParOb.wanted (by simp [Region.wanted, yielded, hd]) ?_
      go_simp
      exact ParPost.same fun _ _ => rfl
    · intro vals W hx hd
      have hW := HF.out W hx
      simp [PDeps, pdeps, Region.binds] at hd
      first
        | refine ParOb.plain rfl ?_
        | refine ParOb.wanted (by simp [Region.wanted, yielded, hd]) ?_
      go_simp
      exact ParPost.same fun _ _ => rfl
    · intro vals W hx hd
      have hW := HF.out W hx
      simp [PDeps, pdeps, Region.binds] at hd
      first
        | refine ParOb.plain rfl ?_
        | refine ParOb.wanted (by simp [Region.wanted, yielded, hd]) ?_
      go_simp
      exact ParPost.same fun _ _ => rfl
    · intro vals W hx hd
      have hW := HF.out W hx
      simp [PDeps, pdeps, Region.binds] at hd
      first
        | refine ParOb.plain rfl ?_
        | refine ParOb.wanted (by simp [Region.wanted, yielded, hd]) ?_
      go_simp
      exact ParPost.same fun _ _ => rfl
    · intro vals W hx hd
      have hW := HF.out W hx
      simp [PDeps, pdeps, Region.binds] at hd
      first
        | refine ParOb.plain rfl ?_
        | refine ParOb.wanted (by simp [Region.wanted, yielded, hd]) ?_
      go_simp
      exact ParPost.same fun _ _ => rfl
    · intro vals W hx hd
      have hW := HF.out W hx
      simp [PDeps, pdeps, Region.binds] at hd
      first
        | refine ParOb.plain rfl ?_
        | refine ParOb.wanted (by simp [Region.wanted, yielded, hd]) ?_
      go_simp
      exact ParPost.same fun _ _ => rfl
    · intro vals W hx hd
      have hW := HF.out W hx
      simp [PDeps, pdeps, Region.binds] at hd
      first
        | refine ParOb.plain rfl ?_
        | refine ParOb.wanted (by simp [Region.wanted, yielded, hd]) ?_
      go_simp
      exact ParPost.same fun _ _ => rfl
  intro vals W hx hf
  simp (maxSteps := 20000000) only [ParFacts, List.take_succ_cons, List.take_zero, and_true] at hf
  simp (maxSteps := 20000000) only [List.drop_succ_cons, List.drop_zero, List.take_succ_cons, List.take_zero, ParEnd, Act.put, List.setIfInBounds_toArray, List.set_cons_succ, List.set_cons_zero, hf]
  clear hf
  simp only [vV, cV]
  go_wp2_with fail
  have HX := Lib.hid hx
  have HF2 := Lib.hid (show ∀ W2, Ext W W2 → (∀ o, W2.cell? ⟨R, o, none⟩ = #[.int .i64 1, .int .i64 0, .bool false, .bool false, .pointer none][o]?) from fun W2 hW => (HA.out.keep (HX.out.trans hW)).cell)
  have HBX := Lib.hid (HB0.out.trans (hx.mono HB0.out.size))
  have HGX := Lib.hid (hG.keep HBX.out)
  clear hx
  refine wp_par 29 (fun
      | 0 => fun v _ => v = .bool true
      | 1 => fun v _ => v = .bool true
      | 2 => fun v _ => v = vV 3 0 itS
      | 3 => fun v _ => v = .string itQ
      | 4 => fun v _ => v = .bool true
      | 5 => fun v _ => v = .bool true
      | 6 => fun v _ => v = .bool true
      | 7 => fun v _ => v = .int .i64 (-1)
      | 8 => fun v _ => v = .bool true
      | 9 => fun v _ => v = .bool true
      | 10 => fun v _ => v = .bool true
      | 11 => fun v _ => v = .bool true
      | 12 => fun v _ => v = .bool true
      | 13 => fun v _ => v = .bool true
      | 14 => fun v _ => v = .int .i64 0
      | 15 => fun v _ => v = .bool true
      | 16 => fun v _ => v = .bool true
      | 17 => fun v _ => v = .bool true
      | 18 => fun v _ => v = vV 0 0 emp
      | 19 => fun v _ => v = vV 0 0 emp
      | 20 => fun v _ => v = cV 1 0 false false none
      | 21 => fun v _ => v = .bool true
      | 22 => fun v _ => v = .bool true
      | 23 => fun v _ => v = .bool true
      | 24 => fun v _ => v = vV 1 1 emp
      | 25 => fun v _ => v = .int .i64 1
      | 26 => fun v _ => v = .bool true
      | 27 => fun v _ => v = .bool true
      | 28 => fun v _ => v = .bool true
      | _ => fun _ _ => True) (by kernel_rfl) (by kernel_rfl) (by kernel_rfl) ?_ ?_
  · simp (maxSteps := 20000000) only [List.take_succ_cons, List.take_zero, ParAll, Act.put, List.setIfInBounds_toArray, List.set_cons_succ, List.set_cons_zero]
    refine ⟨?_, ?_, ?_, ?_, ?_, ?_, ?_, ?_, ?_, ?_, ?_, ?_, ?_, ?_, ?_, ?_, ?_, ?_, ?_, ?_, ?_, ?_, ?_, ?_, ?_, ?_, ?_, ?_, ?_, trivial⟩
    · intro vals W hx hd
      have hW := HF2.out W hx
      simp [PDeps, pdeps, Region.binds] at hd
      first
        | refine ParOb.plain rfl ?_
        | refine ParOb.wanted (by simp [Region.wanted, yielded, hd]) ?_
      go_simp
      exact ParPost.same fun _ _ => rfl
    · intro vals W hx hd
      have hW := HF2.out W hx
      simp [PDeps, pdeps, Region.binds] at hd
      first
        | refine ParOb.plain rfl ?_
        | refine ParOb.wanted (by simp [Region.wanted, yielded, hd]) ?_
      go_simp
      exact ParPost.same fun _ _ => rfl
    · intro vals W hx hd
      have hW := HF2.out W hx
      simp [PDeps, pdeps, Region.binds] at hd
      first
        | refine ParOb.plain rfl ?_
        | refine ParOb.wanted (by simp [Region.wanted, yielded, hd]) ?_
      go_simp
      refine (valtext_any itS W).mono ?_
      rintro e w2 ⟨rfl, hb2⟩
      exact ⟨_, rfl, hb2, fun _ _ => rfl⟩
    · intro vals W hx hd
      have hW := HF2.out W hx
      simp [PDeps, pdeps, Region.binds] at hd
      first
        | refine ParOb.plain rfl ?_
        | refine ParOb.wanted (by simp [Region.wanted, yielded, hd]) ?_
      go_simp
      refine (valprint_its W (HGX.out.keep hx).its).mono ?_
      rintro e w2 ⟨rfl, hb2⟩
      exact ⟨_, rfl, hb2, fun _ _ => rfl⟩
    · intro vals W hx hd
      have hW := HF2.out W hx
      simp [PDeps, pdeps, Region.binds] at hd
      first
        | refine ParOb.plain rfl ?_
        | refine ParOb.wanted (by simp [Region.wanted, yielded, hd]) ?_
      have hq := its_eq
      go_simp
      exact ParPost.same fun _ _ => rfl
    · intro vals W hx hd
      have hW := HF2.out W hx
      simp [PDeps, pdeps, Region.binds] at hd
      first
        | refine ParOb.plain rfl ?_
        | refine ParOb.wanted (by simp [Region.wanted, yielded, hd]) ?_
      go_simp
      exact ParPost.same fun _ _ => rfl
    · intro vals W hx hd
      have hW := HF2.out W hx
      simp [PDeps, pdeps, Region.binds] at hd
      first
        | refine ParOb.plain rfl ?_
        | refine ParOb.wanted (by simp [Region.wanted, yielded, hd]) ?_
      go_simp
      exact ParPost.same fun _ _ => rfl
    · intro vals W hx hd
      have hW := HF2.out W hx
      simp [PDeps, pdeps, Region.binds] at hd
      first
        | refine ParOb.plain rfl ?_
        | refine ParOb.wanted (by simp [Region.wanted, yielded, hd]) ?_
      go_simp
      exact ParPost.same fun _ _ => rfl
    · intro vals W hx hd
      have hW := HF2.out W hx
      simp [PDeps, pdeps, Region.binds] at hd
      first
        | refine ParOb.plain rfl ?_
        | refine ParOb.wanted (by simp [Region.wanted, yielded, hd]) ?_
      go_simp
      exact ParPost.same fun _ _ => rfl
    · intro vals W hx hd
      have hW := HF2.out W hx
      simp [PDeps, pdeps, Region.binds] at hd
      first
        | refine ParOb.plain rfl ?_
        | refine ParOb.wanted (by simp [Region.wanted, yielded, hd]) ?_
      go_simp
      exact ParPost.same fun _ _ => rfl
    · intro vals W hx hd
      have hW := HF2.out W hx
      simp [PDeps, pdeps, Region.binds] at hd
      first
        | refine ParOb.plain rfl ?_
        | refine ParOb.wanted (by simp [Region.wanted, yielded, hd]) ?_
      go_simp
      exact ParPost.same fun _ _ => rfl
    · intro vals W hx hd
      have hW := HF2.out W hx
      simp [PDeps, pdeps, Region.binds] at hd
      first
        | refine ParOb.plain rfl ?_
        | refine ParOb.wanted (by simp [Region.wanted, yielded, hd]) ?_
      go_simp
      exact ParPost.same fun _ _ => rfl
    · intro vals W hx hd
      have hW := HF2.out W hx
      simp [PDeps, pdeps, Region.binds] at hd
      first
        | refine ParOb.plain rfl ?_
        | refine ParOb.wanted (by simp [Region.wanted, yielded, hd]) ?_
      go_simp
      exact ParPost.same fun _ _ => rfl
    · intro vals W hx hd
      have hW := HF2.out W hx
      simp [PDeps, pdeps, Region.binds] at hd
      first
        | refine ParOb.plain rfl ?_
        | refine ParOb.wanted (by simp [Region.wanted, yielded, hd]) ?_
      go_simp
      exact ParPost.same fun _ _ => rfl
    · intro vals W hx hd
      have hW := HF2.out W hx
      simp [PDeps, pdeps, Region.binds] at hd
      first
        | refine ParOb.plain rfl ?_
        | refine ParOb.wanted (by simp [Region.wanted, yielded, hd]) ?_
      go_simp
      exact ParPost.same fun _ _ => rfl
    · intro vals W hx hd
      have hW := HF2.out W hx
      simp [PDeps, pdeps, Region.binds] at hd
      first
        | refine ParOb.plain rfl ?_
        | refine ParOb.wanted (by simp [Region.wanted, yielded, hd]) ?_
      go_simp
      exact ParPost.same fun _ _ => rfl
    · intro vals W hx hd
      have hW := HF2.out W hx
      simp [PDeps, pdeps, Region.binds] at hd
      first
        | refine ParOb.plain rfl ?_
        | refine ParOb.wanted (by simp [Region.wanted, yielded, hd]) ?_
      go_simp
      exact ParPost.same fun _ _ => rfl
    · intro vals W hx hd
      have hW := HF2.out W hx
      simp [PDeps, pdeps, Region.binds] at hd
      first
        | refine ParOb.plain rfl ?_
        | refine ParOb.wanted (by simp [Region.wanted, yielded, hd]) ?_
      go_simp
      exact ParPost.same fun _ _ => rfl
    · intro vals W hx hd
      have hW := HF2.out W hx
      simp [PDeps, pdeps, Region.binds] at hd
      first
        | refine ParOb.plain rfl ?_
        | refine ParOb.wanted (by simp [Region.wanted, yielded, hd]) ?_
      go_simp
      refine (valnull_any W).mono ?_
      rintro e w2 ⟨rfl, hb2⟩
      exact ⟨_, rfl, hb2, fun _ _ => rfl⟩
    · intro vals W hx hd
      have hW := HF2.out W hx
      simp [PDeps, pdeps, Region.binds] at hd
      first
        | refine ParOb.plain rfl ?_
        | refine ParOb.wanted (by simp [Region.wanted, yielded, hd]) ?_
      go_simp
      refine (valnull_any W).mono ?_
      rintro e w2 ⟨rfl, hb2⟩
      exact ⟨_, rfl, hb2, fun _ _ => rfl⟩
    · intro vals W hx hd
      have hW := HF2.out W hx
      simp [PDeps, pdeps, Region.binds] at hd
      first
        | refine ParOb.plain rfl ?_
        | refine ParOb.wanted (by simp [Region.wanted, yielded, hd]) ?_
      go_simp
      exact ParPost.same fun _ _ => rfl
    · intro vals W hx hd
      have hW := HF2.out W hx
      simp [PDeps, pdeps, Region.binds] at hd
      first
        | refine ParOb.plain rfl ?_
        | refine ParOb.wanted (by simp [Region.wanted, yielded, hd]) ?_
      go_simp
      refine (valsame_any 0 0 emp 0 0 emp 1 0 false false none 0 W (fun h => absurd h (by decide +kernel))).mono ?_
      rintro e w2 ⟨rfl, hb2⟩
      exact ⟨_, rfl, hb2, fun _ _ => congrArg Value.bool ord00⟩
    · intro vals W hx hd
      have hW := HF2.out W hx
      simp [PDeps, pdeps, Region.binds] at hd
      first
        | refine ParOb.plain rfl ?_
        | refine ParOb.wanted (by simp [Region.wanted, yielded, hd]) ?_
      go_simp
      exact ParPost.same fun _ _ => rfl
    · intro vals W hx hd
      have hW := HF2.out W hx
      simp [PDeps, pdeps, Region.binds] at hd
      first
        | refine ParOb.plain rfl ?_
        | refine ParOb.wanted (by simp [Region.wanted, yielded, hd]) ?_
      go_simp
      exact ParPost.same fun _ _ => rfl
    · intro vals W hx hd
      have hW := HF2.out W hx
      simp [PDeps, pdeps, Region.binds] at hd
      first
        | refine ParOb.plain rfl ?_
        | refine ParOb.wanted (by simp [Region.wanted, yielded, hd]) ?_
      go_simp
      refine (valbool_any true W).mono ?_
      rintro e w2 ⟨rfl, hb2⟩
      exact ⟨_, rfl, hb2, fun _ _ => rfl⟩
    · intro vals W hx hd
      have hW := HF2.out W hx
      simp [PDeps, pdeps, Region.binds] at hd
      first
        | refine ParOb.plain rfl ?_
        | refine ParOb.wanted (by simp [Region.wanted, yielded, hd]) ?_
      have hfd := val_field
      go_simp
      exact ParPost.same fun _ _ => rfl
    · intro vals W hx hd
      have hW := HF2.out W hx
      simp [PDeps, pdeps, Region.binds] at hd
      first
        | refine ParOb.plain rfl ?_
        | refine ParOb.wanted (by simp [Region.wanted, yielded, hd]) ?_
      go_simp
      exact ParPost.same fun _ _ => rfl
    · intro vals W hx hd
      have hW := HF2.out W hx
      simp [PDeps, pdeps, Region.binds] at hd
      first
        | refine ParOb.plain rfl ?_
        | refine ParOb.wanted (by simp [Region.wanted, yielded, hd]) ?_
      go_simp
      exact ParPost.same fun _ _ => rfl
    · intro vals W hx hd
      have hW := HF2.out W hx
      simp [PDeps, pdeps, Region.binds] at hd
      first
        | refine ParOb.plain rfl ?_
        | refine ParOb.wanted (by simp [Region.wanted, yielded, hd]) ?_
      go_simp
      exact ParPost.same fun _ _ => rfl
  intro vals W hx hf
  simp (maxSteps := 20000000) only [ParFacts, List.take_succ_cons, List.take_zero, and_true] at hf
  simp (maxSteps := 20000000) only [List.drop_succ_cons, List.drop_zero, List.take_succ_cons, List.take_zero, ParEnd, Act.put, List.setIfInBounds_toArray, List.set_cons_succ, List.set_cons_zero, hf]
  clear hf
  go_wp2_with fail
  go_ret
  exact ⟨rfl, HBX.out.trans (hx.mono HBX.out.size)⟩
end Go.Proofs.YtbdaebjpgdpcnaaGreatDoor
