/-
  Values: what is held of them.
-/
import Derived.Test.YtbdaebjpgdpcnaaGreatDoorValA
namespace Go.Proofs.YtbdaebjpgdpcnaaGreatDoor
open Go.RowKit
set_option maxRecDepth 100000

/-- A value, or none, if it is not sound. -/
def cK (k n : Int) (s : ByteArray) : Int := if vOk k n s then k else 0
def cN (k n : Int) (s : ByteArray) : Int := if vOk k n s then n else 0
def cS (k n : Int) (s : ByteArray) : ByteArray := if vOk k n s then s else emp
set_option maxHeartbeats 1000000 in
theorem valis_any (k n : Int) (s : ByteArray) (w : World) : Calls Tryz.prog 32 #[vV k n s] w fun e w' => e = .returned (vV (cK k n s) (cN k n s) (cS k n s)) ∧ Below w.heap.size w w' := by
  unfold cK cN cS
  cases hok : vOk k n s
  all_goals
    have HOK := Lib.hid hok
    clear hok
    rw [show vV k n s = .agg #[.int .i64 k, .int .i64 n, .string s] from rfl]
    go_enter Tryz.func32, Tryz.ntmps32
    go_wp2_with fail
    refine (valok_any k n s _).mono ?_
    rintro e w1 ⟨rfl, hb⟩
    rw [HOK.out]
    have hA := ((Blk.new w #[.int .i64 k, .int .i64 n, .string s] 23 rfl).alloc (.cells #[.int .i64 0, .int .i64 0, .string ⟨#[]⟩] 23)).keep hb
    have hB := (Blk.new (w.alloc (.cells #[.int .i64 k, .int .i64 n, .string s] 23)) #[.int .i64 0, .int .i64 0, .string ⟨#[]⟩] 23 (n := w.heap.size + 1) (by simp)).keep hb
    have HB := Lib.hid (show Below w.heap.size w w1 from Below.trans (by go_grown) (hb.mono (by simp; omega)))
    have HA := Lib.hid hA
    have HBB := Lib.hid hB
    obtain ⟨ca, fa⟩ := hA.facts
    obtain ⟨cb, fb⟩ := hB.facts
    clear hb hA hB
    go_wp2_with fail
  · refine (valnull_any _).mono ?_
    rintro e w2 ⟨rfl, hb2⟩
    have hB := HBB.out.keep hb2
    have HB2 := Lib.hid (HB.out.trans (hb2.mono HB.out.size))
    have HC := Lib.hid hB
    clear hb2 ca fa cb fb
    obtain ⟨cb, fb⟩ := hB.facts
    clear hB
    rw [show vV 0 0 emp = .agg #[.int .i64 0, .int .i64 0, .string emp] from rfl]
    go_wp2_with fail
    exact bodyPost_ret (v := vV 0 0 emp) (by simp [results, Tryz.results32, go_sem, (blk3 HC.out _ _ _).cell, vV]) rfl ⟨rfl, below3 HB2.out (Nat.le_succ _) _ _ _⟩
  · exact bodyPost_ret (v := vV k n s) (by simp [results, Tryz.results32, go_sem, (blk3 HBB.out _ _ _).cell, vV]) rfl ⟨rfl, below3 HB.out (Nat.le_succ _) _ _ _⟩

/-! ### Comparing -/
def cmpI (a b : Int) : Int := if a < b then -1 else if b < a then 1 else 0
theorem cmpI_lt {a b : Int} (h : a < b) : cmpI a b = -1 := if_pos h
theorem cmpI_gt {a b : Int} (h : b < a) : cmpI a b = 1 := by rw [cmpI, if_neg (by omega), if_pos h]
theorem cmpI_eq (a : Int) : cmpI a a = 0 := by simp [cmpI]
theorem ret_i {a b : Int} (h : a = b) : Ending.returned (.int .i64 a) = .returned (.int .i64 b) := by rw [h]
theorem nan64_any (x : Int) (w : World) : Calls Tryz.prog 191 #[.int .i64 x] w fun e w' => e = .returned (.bool false) ∧ w = w' := by
  go_enter Tryz.func191, Tryz.ntmps191
  go_wp2
  go_ret
  exact ⟨rfl, rfl⟩
theorem nan_any (x : Int) (w : World) : Calls Tryz.prog 192 #[.int .i64 x] w fun e w' => e = .returned (.bool false) ∧ w = w' := by
  go_enter Tryz.func192, Tryz.ntmps192
  go_wp2
  go_ret
  exact ⟨rfl, rfl⟩
theorem cmp64_any (a b : Int) (w : World) : Calls Tryz.prog 107 #[.int .i64 a, .int .i64 b] w fun e w' => e = .returned (.int .i64 (cmpI a b)) ∧ w = w' := by
  rcases Int.lt_trichotomy a b with h | rfl | h
  · have H := Lib.hid (cmpI_lt h)
    go_enter Tryz.func107, Tryz.ntmps107
    go_wp2_with (first | (go_at_call 191; refine (nan64_any _ _).mono ?_; rintro e w' ⟨rfl, rfl⟩))
    go_ret
    exact ⟨ret_i H.out.symm, rfl⟩
  · have H := Lib.hid (cmpI_eq a)
    go_enter Tryz.func107, Tryz.ntmps107
    go_wp2_with (first | (go_at_call 191; refine (nan64_any _ _).mono ?_; rintro e w' ⟨rfl, rfl⟩))
    go_ret
    exact ⟨ret_i H.out.symm, rfl⟩
  · have H := Lib.hid (cmpI_gt h)
    go_enter Tryz.func107, Tryz.ntmps107
    go_wp2_with (first | (go_at_call 191; refine (nan64_any _ _).mono ?_; rintro e w' ⟨rfl, rfl⟩))
    go_ret
    exact ⟨ret_i H.out.symm, rfl⟩
theorem cmpint_any (a b : Int) (w : World) : Calls Tryz.prog 108 #[.int .i64 a, .int .i64 b] w fun e w' => e = .returned (.int .i64 (cmpI a b)) ∧ w = w' := by
  rcases Int.lt_trichotomy a b with h | rfl | h
  · have H := Lib.hid (cmpI_lt h)
    go_enter Tryz.func108, Tryz.ntmps108
    go_wp2_with (first | (go_at_call 192; refine (nan_any _ _).mono ?_; rintro e w' ⟨rfl, rfl⟩))
    go_ret
    exact ⟨ret_i H.out.symm, rfl⟩
  · have H := Lib.hid (cmpI_eq a)
    go_enter Tryz.func108, Tryz.ntmps108
    go_wp2_with (first | (go_at_call 192; refine (nan_any _ _).mono ?_; rintro e w' ⟨rfl, rfl⟩))
    go_ret
    exact ⟨ret_i H.out.symm, rfl⟩
  · have H := Lib.hid (cmpI_gt h)
    go_enter Tryz.func108, Tryz.ntmps108
    go_wp2_with (first | (go_at_call 192; refine (nan_any _ _).mono ?_; rintro e w' ⟨rfl, rfl⟩))
    go_ret
    exact ⟨ret_i H.out.symm, rfl⟩
/-- A collation's value. -/
def cV (kind level : Int) (shift back : Bool) (p : Option Addr) : Value := .agg #[.int .i64 kind, .int .i64 level, .bool shift, .bool back, .pointer p]
/-- How two values of one kind stand. -/
def alikeV (k r n n' : Int) : Int := if k = 3 then r else cmpI n n'
/-- How the collation holds two texts in any later world. -/
def CmpAt (W : World) (kind level : Int) (shift back : Bool) (p : Option Addr) (a b : ByteArray) (r : Int) : Prop :=
  ∀ W', Ext W W' → Calls Tryz.prog 106 #[cV kind level shift back p, .string a, .string b] W' fun e w' => e = .returned (.int .i64 r) ∧ Below W'.heap.size W' w'
theorem CmpAt.ext {W W' : World} {kind level : Int} {shift back : Bool} {p : Option Addr} {a b : ByteArray} {r : Int} (h : CmpAt W kind level shift back p a b r) (hx : Ext W W') : CmpAt W' kind level shift back p a b r :=
  fun W2 h2 => h W2 (hx.trans h2)
set_option maxHeartbeats 1000000 in
theorem valalike_any (k n : Int) (s : ByteArray) (k' n' : Int) (s' : ByteArray) (kind level : Int) (shift back : Bool) (p : Option Addr) (r : Int) (w : World) (hC : k = 3 → CmpAt w kind level shift back p s s' r) :
    Calls Tryz.prog 57 #[vV k n s, vV k' n' s', cV kind level shift back p] w fun e w' => e = .returned (.int .i64 (alikeV k r n n')) ∧ Below w.heap.size w w' := by
  unfold vV cV
  by_cases h3 : k = 3
  · have HC := Lib.hid (hC h3)
    clear hC
    rw [show alikeV k r n n' = r from if_pos h3]
    subst h3
    go_enter Tryz.func57, Tryz.ntmps57
    go_wp2_with fail
    refine (HC.out _ (show Below _ _ _ by go_grown)).mono ?_
    rintro e w2 ⟨rfl, hb⟩
    have HB := Lib.hid (show Below w.heap.size w w2 from Below.trans (by go_grown) (hb.mono (by simp; omega)))
    clear hb
    go_wp2_with fail
    go_ret
    exact ⟨rfl, HB.out⟩
  · clear hC
    rw [show alikeV k r n n' = cmpI n n' from if_neg h3]
    have k3 : (k == 3) = false := by rw [beq_eq_false_iff_ne]; exact h3
    clear h3
    go_enter Tryz.func57, Tryz.ntmps57
    go_wp2_with (go_at_call 107; refine (cmp64_any _ _ _).mono ?_; rintro e w' ⟨rfl, rfl⟩)
    go_ret
    exact ⟨rfl, by go_grown⟩
/-! ### Two values -/
/-- How two values stand; r: how their texts do. -/
def vOrd (k n : Int) (s : ByteArray) (k' n' : Int) (s' : ByteArray) (r : Int) : Int :=
  if cK k n s = cK k' n' s' then alikeV (cK k n s) r (cN k n s) (cN k' n' s') else cmpI (cK k n s) (cK k' n' s')
theorem cmpI_ne {a b : Int} (h : a ≠ b) : (cmpI a b != 0) = true := by
  rw [bne_iff_ne]; unfold cmpI
  rcases Int.lt_trichotomy a b with h1 | h1 | h1
  · rw [if_pos h1]; decide
  · exact absurd h1 h
  · rw [if_neg (by omega), if_pos h1]; decide
theorem pairEq (a b c d : Int) (w : World) : (Op.equalIn 10000 120 (.agg #[.int .i64 a, .int .i64 b]) (.agg #[.int .i64 c, .int .i64 d])).run Tryz.prog w = .ok (a == c && b == d) w := by
  have hs : ∀ w, (sizeOf 3).run Tryz.prog w = .ok 1 w := fun _ => by kernel_rfl
  have hp : ∀ (x y : Value) w, (part 3 #[x, y] 0).run Tryz.prog w = .ok x w := fun _ _ _ => by kernel_rfl
  have hp1 : ∀ (x y : Value) w, (part 3 #[x, y] 1).run Tryz.prog w = .ok y w := fun _ _ _ => by kernel_rfl
  have he : ∀ (x y : Int) w, (Op.equalIn 9999 3 (.int .i64 x) (.int .i64 y)).run Tryz.prog w = .ok (x == y) w := fun x y w => run_equalIn_int w 9998 3 .i64 .i64 x y Tryz.underlying3
  rw [show (10000 : Nat) = 9999 + 1 from rfl, Op.equalIn]
  simp only [Sem.run_bind, run_underlying Tryz.underlying120, Result.andThen_ok, hs]
  simp only [Std.Legacy.Range.forIn_eq_forIn_range', Std.Legacy.Range.size]
  rw [show List.range' 0 ((2 - 0 + 1 - 1) / 1) 1 = [0, 1] from rfl]
  cases h1 : (a == c) <;> cases h2 : (b == d) <;> simp [hp, hp1, he, h1, h2]
theorem pairGuard : Tryz.prog.eqGuardType Tryz.prog.depth 120 = false := by kernel_rfl
set_option maxHeartbeats 2000000 in
theorem valorder_any (k n : Int) (s : ByteArray) (k' n' : Int) (s' : ByteArray) (kind level : Int) (shift back : Bool) (p : Option Addr) (r : Int) (w : World)
    (hC : cK k n s = 3 → CmpAt w kind level shift back p (cS k n s) (cS k' n' s') r) :
    Calls Tryz.prog 58 #[vV k n s, vV k' n' s', cV kind level shift back p] w fun e w' => e = .returned (.int .i64 (vOrd k n s k' n' s' r)) ∧ Below w.heap.size w w' := by
  have HC := Lib.hid hC
  clear hC
  by_cases hk : cK k n s = cK k' n' s'
  case' pos => have hcmp : (cmpI (cK k n s) (cK k' n' s') != 0) = false := by rw [hk, cmpI_eq]; rfl
  case' neg => have hcmp := cmpI_ne hk
  all_goals
   have HK := Lib.hid hk
   clear hk
   have hV : ∀ k n s, vV k n s = .agg #[.int .i64 k, .int .i64 n, .string s] := fun _ _ _ => rfl
   rw [hV, hV, show cV kind level shift back p = .agg #[.int .i64 kind, .int .i64 level, .bool shift, .bool back, .pointer p] from rfl]
   clear hV
   go_enter Tryz.func58, Tryz.ntmps58
   go_wp2_with fail
   have hA := (((Blk.new w #[.int .i64 k, .int .i64 n, .string s] 23 rfl).alloc (.cells #[.int .i64 k', .int .i64 n', .string s'] 23)).alloc (.cells #[.int .i64 kind, .int .i64 level, .bool shift, .bool back, .pointer p] 58))
   have hB := ((Blk.new (w.alloc (.cells #[.int .i64 k, .int .i64 n, .string s] 23)) #[.int .i64 k', .int .i64 n', .string s'] 23 (n := w.heap.size + 1) (by simp)).alloc (.cells #[.int .i64 kind, .int .i64 level, .bool shift, .bool back, .pointer p] 58))
   have hD := (Blk.new ((w.alloc (.cells #[.int .i64 k, .int .i64 n, .string s] 23)).alloc (.cells #[.int .i64 k', .int .i64 n', .string s'] 23)) #[.int .i64 kind, .int .i64 level, .bool shift, .bool back, .pointer p] 58 (n := w.heap.size + 2) (by simp))
   have hb0 : Below w.heap.size w (((w.alloc (.cells #[.int .i64 k, .int .i64 n, .string s] 23)).alloc (.cells #[.int .i64 k', .int .i64 n', .string s'] 23)).alloc (.cells #[.int .i64 kind, .int .i64 level, .bool shift, .bool back, .pointer p] 58)) := by go_grown
   generalize (((w.alloc (.cells #[.int .i64 k, .int .i64 n, .string s] 23)).alloc (.cells #[.int .i64 k', .int .i64 n', .string s'] 23)).alloc (.cells #[.int .i64 kind, .int .i64 level, .bool shift, .bool back, .pointer p] 58)) = W0 at hA hB hD hb0 ⊢
   have HF := Lib.hid (show ∀ W, Ext W0 W → (∀ o, W.cell? ⟨w.heap.size, o, none⟩ = #[.int .i64 k, .int .i64 n, .string s][o]?) ∧ (∀ o, W.cell? ⟨w.heap.size + 1, o, none⟩ = #[.int .i64 k', .int .i64 n', .string s'][o]?) from
     fun W hW => ⟨(hA.keep hW).cell, (hB.keep hW).cell⟩)
   have HA := Lib.hid hA
   have HB := Lib.hid hB
   have HD := Lib.hid hD
   have HB0 := Lib.hid hb0
   clear hA hB hD hb0
   refine wp_par 4 (fun
       | 0 => fun v _ => v = .agg #[.int .i64 k, .int .i64 n, .string s]
       | 1 => fun v _ => v = vV (cK k n s) (cN k n s) (cS k n s)
       | 2 => fun v _ => v = .agg #[.int .i64 k', .int .i64 n', .string s']
       | 3 => fun v _ => v = vV (cK k' n' s') (cN k' n' s') (cS k' n' s')
       | _ => fun _ _ => True) (by kernel_rfl) (by kernel_rfl) (by kernel_rfl) ?_ ?_
   · simp (maxSteps := 20000000) only [List.take_succ_cons, List.take_zero, ParAll, Act.put, List.setIfInBounds_toArray, List.set_cons_succ, List.set_cons_zero]
     refine ⟨?_, ?_, ?_, ?_, trivial⟩
     · intro vals W hx hd
       have hW := HF.out W hx
       simp [PDeps, pdeps, Region.binds] at hd
       first
         | refine ParOb.plain rfl ?_
         | refine ParOb.wanted (by simp [Region.wanted, yielded, hd]) ?_
       go_simp
       exact ParPost.same fun _ _ => rfl
     · intro vals W hx hd
       have hW := HF.out W hx
       simp [PDeps, pdeps, Region.binds] at hd
       first
         | refine ParOb.plain rfl ?_
         | refine ParOb.wanted (by simp [Region.wanted, yielded, hd]) ?_
       go_simp
       refine (valis_any k n s W).mono ?_
       rintro e w2 ⟨rfl, hb2⟩
       exact ⟨_, rfl, hb2, fun _ _ => rfl⟩
     · intro vals W hx hd
       have hW := HF.out W hx
       simp [PDeps, pdeps, Region.binds] at hd
       first
         | refine ParOb.plain rfl ?_
         | refine ParOb.wanted (by simp [Region.wanted, yielded, hd]) ?_
       go_simp
       exact ParPost.same fun _ _ => rfl
     · intro vals W hx hd
       have hW := HF.out W hx
       simp [PDeps, pdeps, Region.binds] at hd
       first
         | refine ParOb.plain rfl ?_
         | refine ParOb.wanted (by simp [Region.wanted, yielded, hd]) ?_
       go_simp
       refine (valis_any k' n' s' W).mono ?_
       rintro e w2 ⟨rfl, hb2⟩
       exact ⟨_, rfl, hb2, fun _ _ => rfl⟩
   intro vals W hx hf
   simp (maxSteps := 20000000) only [ParFacts, List.take_succ_cons, List.take_zero, and_true] at hf
   simp (maxSteps := 20000000) only [List.drop_succ_cons, List.drop_zero, List.take_succ_cons, List.take_zero, ParEnd, Act.put, List.setIfInBounds_toArray, List.set_cons_succ, List.set_cons_zero, hf]
   clear hf
   have hA := HA.out.keep hx
   have hB := HB.out.keep hx
   have HA2 := Lib.hid (blk3 hA (.int .i64 (cK k n s)) (.int .i64 (cN k n s)) (.string (cS k n s)))
   have HBB := Lib.hid hB
   have HX := Lib.hid hx
   have HBX := Lib.hid (HB0.out.trans (hx.mono HB0.out.size))
   obtain ⟨ca, fa⟩ := hA.facts
   obtain ⟨cb, fb⟩ := hB.facts
   clear hA hB hx
   simp only [vV]
   go_wp2_with fail
   clear ca fa cb fb
   have hA5 : Blk ((((((W.setCell ⟨w.heap.size, 0, none⟩ (.int .i64 (cK k n s))).setCell ⟨w.heap.size, 1, none⟩ (.int .i64 (cN k n s))).setCell ⟨w.heap.size, 2, none⟩ (.string (cS k n s))).setCell ⟨w.heap.size + 1, 0, none⟩ (.int .i64 (cK k' n' s'))).setCell ⟨w.heap.size + 1, 1, none⟩ (.int .i64 (cN k' n' s'))).setCell ⟨w.heap.size + 1, 2, none⟩ (.string (cS k' n' s'))) w.heap.size #[.int .i64 (cK k n s), .int .i64 (cN k n s), .string (cS k n s)] 23 := ((HA2.out.other (by simp) _).other (by simp) _).other (by simp) _
   have hB5 : Blk ((((((W.setCell ⟨w.heap.size, 0, none⟩ (.int .i64 (cK k n s))).setCell ⟨w.heap.size, 1, none⟩ (.int .i64 (cN k n s))).setCell ⟨w.heap.size, 2, none⟩ (.string (cS k n s))).setCell ⟨w.heap.size + 1, 0, none⟩ (.int .i64 (cK k' n' s'))).setCell ⟨w.heap.size + 1, 1, none⟩ (.int .i64 (cN k' n' s'))).setCell ⟨w.heap.size + 1, 2, none⟩ (.string (cS k' n' s'))) (w.heap.size + 1) #[.int .i64 (cK k' n' s'), .int .i64 (cN k' n' s'), .string (cS k' n' s')] 23 := blk3 (((HBB.out.other (by simp) _).other (by simp) _).other (by simp) _) _ _ _
   have hD5 : Blk ((((((W.setCell ⟨w.heap.size, 0, none⟩ (.int .i64 (cK k n s))).setCell ⟨w.heap.size, 1, none⟩ (.int .i64 (cN k n s))).setCell ⟨w.heap.size, 2, none⟩ (.string (cS k n s))).setCell ⟨w.heap.size + 1, 0, none⟩ (.int .i64 (cK k' n' s'))).setCell ⟨w.heap.size + 1, 1, none⟩ (.int .i64 (cN k' n' s'))).setCell ⟨w.heap.size + 1, 2, none⟩ (.string (cS k' n' s'))) (w.heap.size + 2) #[.int .i64 kind, .int .i64 level, .bool shift, .bool back, .pointer p] 58 := ((((((HD.out.keep HX.out).other (by simp) _).other (by simp) _).other (by simp) _).other (by simp) _).other (by simp) _).other (by simp) _
   have hX5 : Below w.heap.size w ((((((W.setCell ⟨w.heap.size, 0, none⟩ (.int .i64 (cK k n s))).setCell ⟨w.heap.size, 1, none⟩ (.int .i64 (cN k n s))).setCell ⟨w.heap.size, 2, none⟩ (.string (cS k n s))).setCell ⟨w.heap.size + 1, 0, none⟩ (.int .i64 (cK k' n' s'))).setCell ⟨w.heap.size + 1, 1, none⟩ (.int .i64 (cN k' n' s'))).setCell ⟨w.heap.size + 1, 2, none⟩ (.string (cS k' n' s'))) := below3 (below3 HBX.out (Nat.le_refl _) _ _ _) (Nat.le_succ _) _ _ _
   generalize ((((((W.setCell ⟨w.heap.size, 0, none⟩ (.int .i64 (cK k n s))).setCell ⟨w.heap.size, 1, none⟩ (.int .i64 (cN k n s))).setCell ⟨w.heap.size, 2, none⟩ (.string (cS k n s))).setCell ⟨w.heap.size + 1, 0, none⟩ (.int .i64 (cK k' n' s'))).setCell ⟨w.heap.size + 1, 1, none⟩ (.int .i64 (cN k' n' s'))).setCell ⟨w.heap.size + 1, 2, none⟩ (.string (cS k' n' s'))) = W5 at hA5 hB5 hD5 hX5 ⊢
   have HX5 := Lib.hid hX5
   obtain ⟨ca, fa⟩ := hA5.facts
   obtain ⟨cb, fb⟩ := hB5.facts
   obtain ⟨cd, fd⟩ := hD5.facts
   clear hA5 hB5 hD5 hX5
   refine (cmpint_any _ _ _).mono ?_
   rintro e w2 ⟨rfl, rfl⟩
  · go_wp2_with fail
    go_ret
    exact ⟨ret_i (by rw [vOrd, if_neg HK.out]), HX5.out⟩
  · go_wp2_with fail
    rw [show Value.agg #[.int .i64 (cK k n s), .int .i64 (cN k n s), .string (cS k n s)] = vV (cK k n s) (cN k n s) (cS k n s) from rfl, show Value.agg #[.int .i64 (cK k' n' s'), .int .i64 (cN k' n' s'), .string (cS k' n' s')] = vV (cK k' n' s') (cN k' n' s') (cS k' n' s') from rfl, show Value.agg #[.int .i64 kind, .int .i64 level, .bool shift, .bool back, .pointer p] = cV kind level shift back p from rfl]
    refine (valalike_any _ _ _ _ _ _ _ _ _ _ _ r W5 (fun h => (HC.out h).ext HX5.out)).mono ?_
    rintro e w6 ⟨rfl, hb6⟩
    have HB6 := Lib.hid (HX5.out.trans (hb6.mono HX5.out.size))
    clear hb6
    go_wp2_with fail
    go_ret
    exact ⟨ret_i (by rw [vOrd, if_pos HK.out]), HB6.out⟩
theorem cK_kinds (k n : Int) (s : ByteArray) : cK k n s = 0 ∨ cK k n s = 1 ∨ cK k n s = 2 ∨ cK k n s = 3 := by
  unfold cK
  cases h : vOk k n s
  · exact .inl rfl
  · rw [if_pos rfl]
    unfold vOk at h
    split at h
    · omega
    · split at h
      · omega
      · split at h
        · omega
        · simp at h; omega
def vCmp (k n : Int) (s : ByteArray) (k' n' : Int) (s' : ByteArray) (r : Int) : Value :=
  if cK k n s = 0 ∨ cK k' n' s' = 0 then .tuple #[.int .i64 0, .bool false, .int .i64 0] else if cK k n s = cK k' n' s' then .tuple #[.int .i64 (alikeV (cK k n s) r (cN k n s) (cN k' n' s')), .bool true, .int .i64 0] else .tuple #[.int .i64 0, .bool false, .int .i64 12]
set_option maxHeartbeats 8000000 in
theorem valcmp_any (k n : Int) (s : ByteArray) (k' n' : Int) (s' : ByteArray) (kind level : Int) (shift back : Bool) (p : Option Addr) (r : Int) (w : World)
    (hC : cK k n s = 3 → CmpAt w kind level shift back p (cS k n s) (cS k' n' s') r) :
    Calls Tryz.prog 26 #[vV k n s, vV k' n' s', cV kind level shift back p] w fun e w' => e = .returned (vCmp k n s k' n' s' r) ∧ Below w.heap.size w w' := by
  have HC := Lib.hid hC
  clear hC
  all_goals
   have hV : ∀ k n s, vV k n s = .agg #[.int .i64 k, .int .i64 n, .string s] := fun _ _ _ => rfl
   rw [hV, hV, show cV kind level shift back p = .agg #[.int .i64 kind, .int .i64 level, .bool shift, .bool back, .pointer p] from rfl]
   clear hV
   go_enter Tryz.func26, Tryz.ntmps26
   go_wp2_with fail
   have hA := (((Blk.new w #[.int .i64 k, .int .i64 n, .string s] 23 rfl).alloc (.cells #[.int .i64 k', .int .i64 n', .string s'] 23)).alloc (.cells #[.int .i64 kind, .int .i64 level, .bool shift, .bool back, .pointer p] 58))
   have hB := ((Blk.new (w.alloc (.cells #[.int .i64 k, .int .i64 n, .string s] 23)) #[.int .i64 k', .int .i64 n', .string s'] 23 (n := w.heap.size + 1) (by simp)).alloc (.cells #[.int .i64 kind, .int .i64 level, .bool shift, .bool back, .pointer p] 58))
   have hD := (Blk.new ((w.alloc (.cells #[.int .i64 k, .int .i64 n, .string s] 23)).alloc (.cells #[.int .i64 k', .int .i64 n', .string s'] 23)) #[.int .i64 kind, .int .i64 level, .bool shift, .bool back, .pointer p] 58 (n := w.heap.size + 2) (by simp))
   have hb0 : Below w.heap.size w (((w.alloc (.cells #[.int .i64 k, .int .i64 n, .string s] 23)).alloc (.cells #[.int .i64 k', .int .i64 n', .string s'] 23)).alloc (.cells #[.int .i64 kind, .int .i64 level, .bool shift, .bool back, .pointer p] 58)) := by go_grown
   generalize (((w.alloc (.cells #[.int .i64 k, .int .i64 n, .string s] 23)).alloc (.cells #[.int .i64 k', .int .i64 n', .string s'] 23)).alloc (.cells #[.int .i64 kind, .int .i64 level, .bool shift, .bool back, .pointer p] 58)) = W0 at hA hB hD hb0 ⊢
   have HF := Lib.hid (show ∀ W, Ext W0 W → (∀ o, W.cell? ⟨w.heap.size, o, none⟩ = #[.int .i64 k, .int .i64 n, .string s][o]?) ∧ (∀ o, W.cell? ⟨w.heap.size + 1, o, none⟩ = #[.int .i64 k', .int .i64 n', .string s'][o]?) from
     fun W hW => ⟨(hA.keep hW).cell, (hB.keep hW).cell⟩)
   have HA := Lib.hid hA
   have HB := Lib.hid hB
   have HD := Lib.hid hD
   have HB0 := Lib.hid hb0
   clear hA hB hD hb0
   refine wp_par 4 (fun
       | 0 => fun v _ => v = .agg #[.int .i64 k, .int .i64 n, .string s]
       | 1 => fun v _ => v = vV (cK k n s) (cN k n s) (cS k n s)
       | 2 => fun v _ => v = .agg #[.int .i64 k', .int .i64 n', .string s']
       | 3 => fun v _ => v = vV (cK k' n' s') (cN k' n' s') (cS k' n' s')
       | _ => fun _ _ => True) (by kernel_rfl) (by kernel_rfl) (by kernel_rfl) ?_ ?_
   · simp (maxSteps := 20000000) only [List.take_succ_cons, List.take_zero, ParAll, Act.put, List.setIfInBounds_toArray, List.set_cons_succ, List.set_cons_zero]
     refine ⟨?_, ?_, ?_, ?_, trivial⟩
     · intro vals W hx hd
       have hW := HF.out W hx
       simp [PDeps, pdeps, Region.binds] at hd
       first
         | refine ParOb.plain rfl ?_
         | refine ParOb.wanted (by simp [Region.wanted, yielded, hd]) ?_
       go_simp
       exact ParPost.same fun _ _ => rfl
     · intro vals W hx hd
       have hW := HF.out W hx
       simp [PDeps, pdeps, Region.binds] at hd
       first
         | refine ParOb.plain rfl ?_
         | refine ParOb.wanted (by simp [Region.wanted, yielded, hd]) ?_
       go_simp
       refine (valis_any k n s W).mono ?_
       rintro e w2 ⟨rfl, hb2⟩
       exact ⟨_, rfl, hb2, fun _ _ => rfl⟩
     · intro vals W hx hd
       have hW := HF.out W hx
       simp [PDeps, pdeps, Region.binds] at hd
       first
         | refine ParOb.plain rfl ?_
         | refine ParOb.wanted (by simp [Region.wanted, yielded, hd]) ?_
       go_simp
       exact ParPost.same fun _ _ => rfl
     · intro vals W hx hd
       have hW := HF.out W hx
       simp [PDeps, pdeps, Region.binds] at hd
       first
         | refine ParOb.plain rfl ?_
         | refine ParOb.wanted (by simp [Region.wanted, yielded, hd]) ?_
       go_simp
       refine (valis_any k' n' s' W).mono ?_
       rintro e w2 ⟨rfl, hb2⟩
       exact ⟨_, rfl, hb2, fun _ _ => rfl⟩
   intro vals W hx hf
   simp (maxSteps := 20000000) only [ParFacts, List.take_succ_cons, List.take_zero, and_true] at hf
   simp (maxSteps := 20000000) only [List.drop_succ_cons, List.drop_zero, List.take_succ_cons, List.take_zero, ParEnd, Act.put, List.setIfInBounds_toArray, List.set_cons_succ, List.set_cons_zero, hf]
   clear hf
   have hA := HA.out.keep hx
   have hB := HB.out.keep hx
   have HA2 := Lib.hid (blk3 hA (.int .i64 (cK k n s)) (.int .i64 (cN k n s)) (.string (cS k n s)))
   have HBB := Lib.hid hB
   have HX := Lib.hid hx
   have HBX := Lib.hid (HB0.out.trans (hx.mono HB0.out.size))
   obtain ⟨ca, fa⟩ := hA.facts
   obtain ⟨cb, fb⟩ := hB.facts
   clear hA hB hx
   simp only [vV]
   go_wp2_with fail
   clear ca fa cb fb
   have hA5 : Blk ((((((W.setCell ⟨w.heap.size, 0, none⟩ (.int .i64 (cK k n s))).setCell ⟨w.heap.size, 1, none⟩ (.int .i64 (cN k n s))).setCell ⟨w.heap.size, 2, none⟩ (.string (cS k n s))).setCell ⟨w.heap.size + 1, 0, none⟩ (.int .i64 (cK k' n' s'))).setCell ⟨w.heap.size + 1, 1, none⟩ (.int .i64 (cN k' n' s'))).setCell ⟨w.heap.size + 1, 2, none⟩ (.string (cS k' n' s'))) w.heap.size #[.int .i64 (cK k n s), .int .i64 (cN k n s), .string (cS k n s)] 23 := ((HA2.out.other (by simp) _).other (by simp) _).other (by simp) _
   have hB5 : Blk ((((((W.setCell ⟨w.heap.size, 0, none⟩ (.int .i64 (cK k n s))).setCell ⟨w.heap.size, 1, none⟩ (.int .i64 (cN k n s))).setCell ⟨w.heap.size, 2, none⟩ (.string (cS k n s))).setCell ⟨w.heap.size + 1, 0, none⟩ (.int .i64 (cK k' n' s'))).setCell ⟨w.heap.size + 1, 1, none⟩ (.int .i64 (cN k' n' s'))).setCell ⟨w.heap.size + 1, 2, none⟩ (.string (cS k' n' s'))) (w.heap.size + 1) #[.int .i64 (cK k' n' s'), .int .i64 (cN k' n' s'), .string (cS k' n' s')] 23 := blk3 (((HBB.out.other (by simp) _).other (by simp) _).other (by simp) _) _ _ _
   have hD5 : Blk ((((((W.setCell ⟨w.heap.size, 0, none⟩ (.int .i64 (cK k n s))).setCell ⟨w.heap.size, 1, none⟩ (.int .i64 (cN k n s))).setCell ⟨w.heap.size, 2, none⟩ (.string (cS k n s))).setCell ⟨w.heap.size + 1, 0, none⟩ (.int .i64 (cK k' n' s'))).setCell ⟨w.heap.size + 1, 1, none⟩ (.int .i64 (cN k' n' s'))).setCell ⟨w.heap.size + 1, 2, none⟩ (.string (cS k' n' s'))) (w.heap.size + 2) #[.int .i64 kind, .int .i64 level, .bool shift, .bool back, .pointer p] 58 := ((((((HD.out.keep HX.out).other (by simp) _).other (by simp) _).other (by simp) _).other (by simp) _).other (by simp) _).other (by simp) _
   have hX5 : Below w.heap.size w ((((((W.setCell ⟨w.heap.size, 0, none⟩ (.int .i64 (cK k n s))).setCell ⟨w.heap.size, 1, none⟩ (.int .i64 (cN k n s))).setCell ⟨w.heap.size, 2, none⟩ (.string (cS k n s))).setCell ⟨w.heap.size + 1, 0, none⟩ (.int .i64 (cK k' n' s'))).setCell ⟨w.heap.size + 1, 1, none⟩ (.int .i64 (cN k' n' s'))).setCell ⟨w.heap.size + 1, 2, none⟩ (.string (cS k' n' s'))) := below3 (below3 HBX.out (Nat.le_refl _) _ _ _) (Nat.le_succ _) _ _ _
   generalize ((((((W.setCell ⟨w.heap.size, 0, none⟩ (.int .i64 (cK k n s))).setCell ⟨w.heap.size, 1, none⟩ (.int .i64 (cN k n s))).setCell ⟨w.heap.size, 2, none⟩ (.string (cS k n s))).setCell ⟨w.heap.size + 1, 0, none⟩ (.int .i64 (cK k' n' s'))).setCell ⟨w.heap.size + 1, 1, none⟩ (.int .i64 (cN k' n' s'))).setCell ⟨w.heap.size + 1, 2, none⟩ (.string (cS k' n' s'))) = W5 at hA5 hB5 hD5 hX5 ⊢
   have HX5 := Lib.hid hX5
   obtain ⟨ca, fa⟩ := hA5.facts
   obtain ⟨cb, fb⟩ := hB5.facts
   obtain ⟨cd, fd⟩ := hD5.facts
   clear hA5 hB5 hD5 hX5
   rcases cK_kinds k n s with h | h | h | h
   all_goals
    have HK1 := Lib.hid h
    have f0 := congrArg (fun x => x == (0 : Int)) h
    have f1 := congrArg (fun x => x == (1 : Int)) h
    have f2 := congrArg (fun x => x == (2 : Int)) h
    have f3 := congrArg (fun x => x == (3 : Int)) h
    simp only [Int.reduceBEq] at f0 f1 f2 f3
    clear h
    rcases cK_kinds k' n' s' with h | h | h | h
   all_goals
    have HK2 := Lib.hid h
    have g0 := congrArg (fun x => x == (0 : Int)) h
    have g1 := congrArg (fun x => x == (1 : Int)) h
    have g2 := congrArg (fun x => x == (2 : Int)) h
    have g3 := congrArg (fun x => x == (3 : Int)) h
    simp only [Int.reduceBEq] at g0 g1 g2 g3
    clear h
   all_goals
    have hpe := fun a b c d => pairEq a b c d W5
    have hpg := fun (x y : Operand) (a b c d : Int) => run_eqGuard_agg (P := Tryz.prog) W5 .eql 120 x y #[.int .i64 a, .int .i64 b] #[.int .i64 c, .int .i64 d] pairGuard
    go_wp2_with (unfold Oper.upon; simp only [hpe, Result.andThen_ok])
    first
    | (go_ret3
       exact ⟨by rw [vCmp]; simp [HK1.out, HK2.out], HX5.out⟩)
    | (rw [show Value.agg #[.int .i64 (cK k n s), .int .i64 (cN k n s), .string (cS k n s)] = vV (cK k n s) (cN k n s) (cS k n s) from rfl, show Value.agg #[.int .i64 (cK k' n' s'), .int .i64 (cN k' n' s'), .string (cS k' n' s')] = vV (cK k' n' s') (cN k' n' s') (cS k' n' s') from rfl, show Value.agg #[.int .i64 kind, .int .i64 level, .bool shift, .bool back, .pointer p] = cV kind level shift back p from rfl]
       refine (valalike_any _ _ _ _ _ _ _ _ _ _ _ r W5 (fun h => (HC.out h).ext HX5.out)).mono ?_
       rintro e w6 ⟨rfl, hb6⟩
       have HB6 := Lib.hid (HX5.out.trans (hb6.mono HX5.out.size))
       clear hb6
       go_wp2_with fail
       go_ret3
       exact ⟨by rw [vCmp]; simp [HK1.out, HK2.out], HB6.out⟩)
end Go.Proofs.YtbdaebjpgdpcnaaGreatDoor
