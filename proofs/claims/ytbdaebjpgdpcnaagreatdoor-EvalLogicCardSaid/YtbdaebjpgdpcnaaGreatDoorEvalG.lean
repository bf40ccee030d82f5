/-
  NOT of a node (Env.unary); two numbers' nodes held by an op (Env.binary).
-/
import Derived.Test.YtbdaebjpgdpcnaaGreatDoorEvalF
namespace Go.Proofs.YtbdaebjpgdpcnaaGreatDoor
open Go.RowKit Go.Lib
set_option maxRecDepth 100000

theorem cell_same {w w' : World} {g : Nat} (h : w'.heap[g]? = w.heap[g]?) (o : Nat) : w'.cell? ⟨g, o, none⟩ = w.cell? ⟨g, o, none⟩ := by simp [World.cell?, h]
def tr3 (t : Nat) : Int × Int × ByteArray := (trK t, trN t, emp)
def o3 (x : Option Int) : Int × Int × ByteArray := (oK x, oN x, emp)
set_option maxHeartbeats 8000000 in
theorem unary_any (s u : ByteArray) (n : Int) (g lc : Nat) (x : N6) (t : Nat) (ht : t < 3) (ra : Option Addr) (rn rc : Nat) (aa : Option Addr) (an ac : Nat) (q : Option Addr) (by_ : Int) (w : World)
    (hN : NdAt w g [x]) (hE : Ev w (evV ra rn rc aa an ac q by_) x (tr3 t) 0) :
    Calls Tryz.prog 74 #[evV ra rn rc aa an ac q by_, ndE 5 21 s u n (some ⟨g, 0, none⟩) 1 lc] w fun e w' => e = .returned (.tuple #[trV (notT t), .int .i64 0]) ∧ Below w.heap.size w w' := by
  have mixed : Tryz.prog.follows .mixedOrders = true := by kernel_rfl
  have KO := Lib.hid (fun W (hW : Ext w W) => operands_any 5 21 s u n g lc [x] [tr3 t] 1 1 ra rn rc aa an ac q by_ W (hN.ext hW) rfl (fun i y v hy hv => by
    obtain rfl : i = 0 := by have := (List.getElem?_eq_some_iff.1 hy).1; simp at this; omega
    obtain rfl : x = y := by simpa using hy
    obtain rfl : tr3 t = v := by simpa using hv
    exact hE.ext hW) (by simp) (by simp) (by simp) (by simp))
  have KN := Lib.hid (castnot_any t ht)
  have KF := Lib.hid (fun W => fits_ok (trK (notT t)) (trN (notT t)) ⟨#[]⟩ W)
  rw [trV_eq _ (notT_lt t), trV_eq t ht] at KN
  rw [trV_eq _ (notT_lt t)]
  generalize trK (notT t) = rk at KN KF ⊢
  generalize trN (notT t) = rn' at KN KF ⊢
  simp only [evV, ndE, vV, List.length_singleton] at KO KF ⊢
  have hk1 : ((1 : Nat) : Int) = 1 := rfl
  rw [hk1] at KO
  clear hk1 hN hE
  obtain ⟨kk, hkk⟩ : ∃ z : Int, z = 5 := ⟨_, rfl⟩
  obtain ⟨oo, hoo⟩ : ∃ z : Int, z = 21 := ⟨_, rfl⟩
  obtain ⟨ll, hll⟩ : ∃ z : Nat, z = 1 := ⟨_, rfl⟩
  have HE0 := Lib.hid (((Blk.new w #[.slice ra rn rc, .slice aa an ac, .pointer q, .int .i64 by_] 47 rfl).alloc (.cells #[.int .i64 kk, .int .i64 oo, .string s, .string u, .int .i64 n, .slice (some ⟨g, 0, none⟩) ll lc] 38)).alloc (.cells #[.int .i64 0, .int .i64 0, .string ⟨#[]⟩] 23))
  have HN0 := Lib.hid ((Blk.new (w.alloc (.cells #[.slice ra rn rc, .slice aa an ac, .pointer q, .int .i64 by_] 47)) #[.int .i64 kk, .int .i64 oo, .string s, .string u, .int .i64 n, .slice (some ⟨g, 0, none⟩) ll lc] 38 (n := w.heap.size + 1) (by simp)).alloc (.cells #[.int .i64 0, .int .i64 0, .string ⟨#[]⟩] 23))
  have HR0 := Lib.hid (Blk.new ((w.alloc (.cells #[.slice ra rn rc, .slice aa an ac, .pointer q, .int .i64 by_] 47)).alloc (.cells #[.int .i64 kk, .int .i64 oo, .string s, .string u, .int .i64 n, .slice (some ⟨g, 0, none⟩) ll lc] 38)) #[.int .i64 0, .int .i64 0, .string ⟨#[]⟩] 23 (n := w.heap.size + 1 + 1) (by simp))
  have HX0 := Lib.hid (show Below w.heap.size w (((w.alloc (.cells #[.slice ra rn rc, .slice aa an ac, .pointer q, .int .i64 by_] 47)).alloc (.cells #[.int .i64 kk, .int .i64 oo, .string s, .string u, .int .i64 n, .slice (some ⟨g, 0, none⟩) ll lc] 38)).alloc (.cells #[.int .i64 0, .int .i64 0, .string ⟨#[]⟩] 23)) by go_grown)
  subst hkk hoo hll
  go_enter Tryz.func74, Tryz.ntmps74
  go_wp2_with fail
  generalize (((w.alloc (.cells #[.slice ra rn rc, .slice aa an ac, .pointer q, .int .i64 by_] 47)).alloc (.cells #[.int .i64 5, .int .i64 21, .string s, .string u, .int .i64 n, .slice (some ⟨g, 0, none⟩) 1 lc] 38)).alloc (.cells #[.int .i64 0, .int .i64 0, .string ⟨#[]⟩] 23)) = W0 at HE0 HN0 HR0 HX0 ⊢
  refine Calls.mono (KO.out W0 HX0.out) ?_
  rintro e w1 ⟨⟨l, rfl, hl⟩, hb1⟩
  have HN1 := Lib.hid (HN0.out.keep hb1)
  have HR1 := Lib.hid (HR0.out.keep hb1)
  have HX1 := Lib.hid (show Below w.heap.size w w1 from HX0.out.trans (hb1.mono HX0.out.size))
  obtain ⟨gv, cv, rfl, hge, hgv, hcv⟩ := hl
  obtain ⟨v0, v1, v2⟩ := hcv 0 _ rfl
  have hgvR : gv ≠ w.heap.size + 1 + 1 := by have := HR0.out.lt; omega
  clear hb1 hcv HE0 HN0 HR0 HX0 KO
  simp only [Nat.zero_mul, Nat.zero_add, tr3, emp, List.length_singleton] at v0 v1 v2 ⊢
  have HV0 := Lib.hid v0
  have HV1 := Lib.hid v1
  have HV2 := Lib.hid v2
  clear v0 v1 v2
  go_simp
  repeat (first | go_values | go_skip | go_guarded | go_step | go_upon)
  have HF := Lib.hid (show ∀ W, LeW (· = w.heap.size + 1 + 1) #[.int .i64 rk, .int .i64 rn', .string ⟨#[]⟩] w1 W → (∀ j, W.cell? ⟨w.heap.size + 1, j, none⟩ = (#[.int .i64 5, .int .i64 21, .string s, .string u, .int .i64 n, .slice (some ⟨g, 0, none⟩) 1 lc] : Array Value)[j]?) ∧ W.cell? ⟨gv, 0, none⟩ = some (.int .i64 (trK t)) ∧ W.cell? ⟨gv, 1, none⟩ = some (.int .i64 (trN t)) ∧ W.cell? ⟨gv, 2, none⟩ = some (.string ⟨#[]⟩) from
    fun W hW => ⟨(hW.blk HN1.out (by omega)).cell, by rw [cell_same (hW.old gv hgv hgvR)]; exact HV0.out, by rw [cell_same (hW.old gv hgv hgvR)]; exact HV1.out, by rw [cell_same (hW.old gv hgv hgvR)]; exact HV2.out⟩)
  refine wp_parZG (leW (· = w.heap.size + 1 + 1) #[.int .i64 rk, .int .i64 rn', .string ⟨#[]⟩]) [0, 1, 2, 3, 4, 5, 6, 7, 8, 9, 10, 11, 12] 13 13 (fun
      | 0 => fun _ v _ => v = .pointer (some ⟨w.heap.size + 1, 1, none⟩)
      | 1 => fun _ v _ => v = .int .i64 21
      | 2 => fun _ v _ => v = .slice (some ⟨gv, 0, none⟩) 1 cv
      | 3 => fun _ v _ => v = .pointer (some ⟨gv, 0, none⟩)
      | 4 => fun _ v _ => v = .agg #[.int .i64 (trK t), .int .i64 (trN t), .string ⟨#[]⟩]
      | 5 => fun _ v _ => v = .tuple #[.agg #[.int .i64 rk, .int .i64 rn', .string ⟨#[]⟩], .int .i64 0]
      | 6 => fun _ v _ => v = .agg #[.int .i64 rk, .int .i64 rn', .string ⟨#[]⟩]
      | 7 => fun _ v _ => v = .int .i64 0
      | 8 => fun _ v _ => v = .tuple #[.agg #[.int .i64 rk, .int .i64 rn', .string ⟨#[]⟩], .int .i64 0]
      | 9 => fun _ v _ => v = .agg #[.int .i64 rk, .int .i64 rn', .string ⟨#[]⟩]
      | 10 => fun _ v _ => v = .int .i64 0
      | 11 => fun _ => filledV (w.heap.size + 1 + 1) #[.int .i64 rk, .int .i64 rn', .string ⟨#[]⟩]
      | 12 => fun _ v _ => v = .int .i64 0
      | _ => fun _ _ _ => True) (fun
      | _ => undef) (by kernel_rfl) (by kernel_rfl) (by kernel_rfl) ?_ ?_ ?_
  · simp (maxSteps := 20000000) only [permL, permOp, List.filterMap_cons, List.filterMap_nil, List.getElem?_cons_succ, List.getElem?_cons_zero, Option.map_some, Option.map_none, List.take_succ_cons, List.take_zero, ParAllG, Act.put, List.setIfInBounds_toArray, List.set_cons_succ, List.set_cons_zero]
    refine ⟨?_, ?_, ?_, ?_, ?_, ?_, ?_, ?_, ?_, ?_, ?_, ?_, ?_, trivial⟩
    · intro vals W hx hd
      have hW := HF.out W hx
      simp [PDepsG, pdeps, Region.binds, List.idxOf_cons] at hd
      first
        | refine ParObG.plain rfl ?_
        | refine ParObG.wanted (by simp [Region.wanted, yielded, hd]) ?_
      go_simp
      exact ParPostG.same (leW (· = w.heap.size + 1 + 1) #[.int .i64 rk, .int .i64 rn', .string ⟨#[]⟩]) fun _ _ => rfl
    · intro vals W hx hd
      have hW := HF.out W hx
      simp [PDepsG, pdeps, Region.binds, List.idxOf_cons] at hd
      first
        | refine ParObG.plain rfl ?_
        | refine ParObG.wanted (by simp [Region.wanted, yielded, hd]) ?_
      go_simp
      exact ParPostG.same (leW (· = w.heap.size + 1 + 1) #[.int .i64 rk, .int .i64 rn', .string ⟨#[]⟩]) fun _ _ => rfl
    · intro vals W hx hd
      have hW := HF.out W hx
      simp [PDepsG, pdeps, Region.binds, List.idxOf_cons] at hd
      first
        | refine ParObG.plain rfl ?_
        | refine ParObG.wanted (by simp [Region.wanted, yielded, hd]) ?_
      go_simp
      exact ParPostG.same (leW (· = w.heap.size + 1 + 1) #[.int .i64 rk, .int .i64 rn', .string ⟨#[]⟩]) fun _ _ => rfl
    · intro vals W hx hd
      have hW := HF.out W hx
      simp [PDepsG, pdeps, Region.binds, List.idxOf_cons] at hd
      first
        | refine ParObG.plain rfl ?_
        | refine ParObG.wanted (by simp [Region.wanted, yielded, hd]) ?_
      go_simp
      exact ParPostG.same (leW (· = w.heap.size + 1 + 1) #[.int .i64 rk, .int .i64 rn', .string ⟨#[]⟩]) fun _ _ => rfl
    · intro vals W hx hd
      have hW := HF.out W hx
      simp [PDepsG, pdeps, Region.binds, List.idxOf_cons] at hd
      first
        | refine ParObG.plain rfl ?_
        | refine ParObG.wanted (by simp [Region.wanted, yielded, hd]) ?_
      go_simp
      exact ParPostG.same (leW (· = w.heap.size + 1 + 1) #[.int .i64 rk, .int .i64 rn', .string ⟨#[]⟩]) fun _ _ => rfl
    · intro vals W hx hd
      have hW := HF.out W hx
      simp [PDepsG, pdeps, Region.binds, List.idxOf_cons] at hd
      first
        | refine ParObG.plain rfl ?_
        | refine ParObG.wanted (by simp [Region.wanted, yielded, hd]) ?_
      go_simp
      refine (KN.out W).mono ?_
      rintro e w9 ⟨rfl, hb9⟩
      exact ⟨_, rfl, LeW.ofExt hb9, fun _ _ => rfl⟩
    · intro vals W hx hd
      have hW := HF.out W hx
      simp [PDepsG, pdeps, Region.binds, List.idxOf_cons] at hd
      first
        | refine ParObG.plain rfl ?_
        | refine ParObG.wanted (by simp [Region.wanted, yielded, hd]) ?_
      go_simp
      exact ParPostG.same (leW (· = w.heap.size + 1 + 1) #[.int .i64 rk, .int .i64 rn', .string ⟨#[]⟩]) fun _ _ => rfl
    · intro vals W hx hd
      have hW := HF.out W hx
      simp [PDepsG, pdeps, Region.binds, List.idxOf_cons] at hd
      first
        | refine ParObG.plain rfl ?_
        | refine ParObG.wanted (by simp [Region.wanted, yielded, hd]) ?_
      go_simp
      exact ParPostG.same (leW (· = w.heap.size + 1 + 1) #[.int .i64 rk, .int .i64 rn', .string ⟨#[]⟩]) fun _ _ => rfl
    · intro vals W hx hd
      have hW := HF.out W hx
      simp [PDepsG, pdeps, Region.binds, List.idxOf_cons] at hd
      first
        | refine ParObG.plain rfl ?_
        | refine ParObG.wanted (by simp [Region.wanted, yielded, hd]) ?_
      go_simp
      refine (KF.out W).mono ?_
      rintro e w9 ⟨rfl, hb9⟩
      exact ⟨_, rfl, LeW.ofExt hb9, fun _ _ => rfl⟩
    · intro vals W hx hd
      have hW := HF.out W hx
      simp [PDepsG, pdeps, Region.binds, List.idxOf_cons] at hd
      first
        | refine ParObG.plain rfl ?_
        | refine ParObG.wanted (by simp [Region.wanted, yielded, hd]) ?_
      go_simp
      exact ParPostG.same (leW (· = w.heap.size + 1 + 1) #[.int .i64 rk, .int .i64 rn', .string ⟨#[]⟩]) fun _ _ => rfl
    · intro vals W hx hd
      have hW := HF.out W hx
      simp [PDepsG, pdeps, Region.binds, List.idxOf_cons] at hd
      first
        | refine ParObG.plain rfl ?_
        | refine ParObG.wanted (by simp [Region.wanted, yielded, hd]) ?_
      go_simp
      exact ParPostG.same (leW (· = w.heap.size + 1 + 1) #[.int .i64 rk, .int .i64 rn', .string ⟨#[]⟩]) fun _ _ => rfl
    · intro vals W hx hd
      have hW := HF.out W hx
      simp [PDepsG, pdeps, Region.binds, List.idxOf_cons] at hd
      first
        | refine ParObG.plain rfl ?_
        | refine ParObG.wanted (by simp [Region.wanted, yielded, hd]) ?_
      obtain ⟨cs, hcs1, hcs2⟩ := hx.row _ _ HR1.out rfl
      refine yields_storeV (cs := #[.int .i64 rk, .int .i64 rn', .string ⟨#[]⟩]) rfl (by simp [Act.eval]) (by simp [Act.eval, hd]) hcs1 hcs2 rfl (by simp [Value.oneCell']) ?_
      exact ⟨LeW.setRow hcs1 rfl rfl, fun w3 h3 => h3.keep _ (setRow_heap _ _ cs _ _ _ hcs1)⟩
    · intro vals W hx hd
      have hW := HF.out W hx
      simp [PDepsG, pdeps, Region.binds, List.idxOf_cons] at hd
      first
        | refine ParObG.plain rfl ?_
        | refine ParObG.wanted (by simp [Region.wanted, yielded, hd]) ?_
      go_simp
      exact ParPostG.same (leW (· = w.heap.size + 1 + 1) #[.int .i64 rk, .int .i64 rn', .string ⟨#[]⟩]) fun _ _ => rfl
  · simp (maxSteps := 20000000) only [permL, permOp, List.filterMap_cons, List.filterMap_nil, List.getElem?_cons_succ, List.getElem?_cons_zero, Option.map_some, Option.map_none, List.drop_succ_cons, List.drop_zero, List.take_succ_cons, List.take_zero, Nat.reduceSub, ZAll, ParEnd, Act.put, List.setIfInBounds_toArray, List.set_cons_succ, List.set_cons_zero]
  intro vals W hx hf hz
  simp (maxSteps := 20000000) only [permL, permOp, List.filterMap_cons, List.filterMap_nil, List.getElem?_cons_succ, List.getElem?_cons_zero, Option.map_some, Option.map_none, ParFactsG, List.take_succ_cons, List.take_zero, and_true, Nat.reduceAdd] at hf
  obtain ⟨f0, f1, f2, f3, f4, f5, f6, f7, f8, f9, f10, f11, f12⟩ := hf
  clear hz
  simp (maxSteps := 20000000) only [permL, permOp, List.filterMap_cons, List.filterMap_nil, List.getElem?_cons_succ, List.getElem?_cons_zero, Option.map_some, Option.map_none, List.drop_succ_cons, List.drop_zero, List.take_succ_cons, List.take_zero, Nat.reduceSub, ParEnd, ZTail, Act.put, List.setIfInBounds_toArray, List.set_cons_succ, List.set_cons_zero, Nat.reduceAdd, f0, f1, f2, f3, f4, f5, f6, f7, f8, f9, f10, f12]
  clear f0 f1 f2 f3 f4 f5 f6 f7 f8 f9 f10 f12
  have HX2 := Lib.hid (LeW.below HX1.out hx fun i hi => by omega)
  have HR2 := Lib.hid (show Blk W (w.heap.size + 1 + 1) #[.int .i64 rk, .int .i64 rn', .string ⟨#[]⟩] 23 from f11)
  clear hx HF f11
  go_simp
  repeat (first | go_values | go_skip | go_guarded | go_step | go_upon)
  refine bodyPost_ret (ret_vE2 rfl _ rfl rfl HR2.out) rfl ?_
  exact ⟨rfl, HX2.out⟩
set_option maxHeartbeats 8000000 in
theorem binary_test (op : Nat) (u : ByteArray) (n : Int) (g lc : Nat) (x y : N6) (X Y : Option Int) (h1 : 1 ≤ op) (h6 : op ≤ 6) (ra : Option Addr) (rn rc : Nat) (aa : Option Addr) (an ac : Nat) (q : Option Addr) (by_ : Int) (w : World)
    (hN : NdAt w g [x, y]) (hX : Ev w (evV ra rn rc aa an ac q by_) x (o3 X) 0) (hY : Ev w (evV ra rn rc aa an ac q by_) y (o3 Y) 0) :
    Calls Tryz.prog 75 #[evV ra rn rc aa an ac q by_, ndE 6 op ⟨#[]⟩ u n (some ⟨g, 0, none⟩) 2 lc] w fun e w' => e = .returned (.tuple #[trV (tst op X Y), .int .i64 0]) ∧ Below w.heap.size w w' := by
  have mixed : Tryz.prog.follows .mixedOrders = true := by kernel_rfl
  have KO := Lib.hid (fun W (hW : Ext w W) => operands_any 6 op ⟨#[]⟩ u n g lc [x, y] [o3 X, o3 Y] 2 2 ra rn rc aa an ac q by_ W (hN.ext hW) rfl (fun i z v hy hv => by
    have hi : i = 0 ∨ i = 1 := by have := (List.getElem?_eq_some_iff.1 hy).1; simp at this; omega
    rcases hi with rfl | rfl
    · obtain rfl : x = z := by simpa using hy
      obtain rfl : o3 X = v := by simpa using hv
      exact hX.ext hW
    · obtain rfl : y = z := by simpa using hy
      obtain rfl : o3 Y = v := by simpa using hv
      exact hY.ext hW) (by simp) (by simp) (by simp) (by simp))
  have KT := Lib.hid (fun W => test_any op X Y ra rn rc aa an ac q by_ W h1 h6)
  have hlt := tst_lt op X Y
  rw [trV_eq _ hlt] at KT ⊢
  generalize tst op X Y = tt at KT ⊢
  simp only [evV, ndE, vV, o3, List.length_cons, List.length_nil, emp] at KO KT ⊢
  have hk1 : ((2 : Nat) : Int) = 2 := rfl
  rw [show (0 + 1 + 1 : Nat) = 2 from rfl, hk1] at KO
  obtain ⟨oo, hoo⟩ : ∃ z : Int, z = (op : Int) := ⟨_, rfl⟩
  rw [← hoo] at KO KT ⊢
  have b1 : (1 : Int) ≤ oo := by omega
  have b6 : oo ≤ 6 := by omega
  have b18 : (oo == 18) = false := by rw [beq_eq_false_iff_ne]; omega
  have b19 : (oo == 19) = false := by rw [beq_eq_false_iff_ne]; omega
  have b22 : (oo == 22) = false := by rw [beq_eq_false_iff_ne]; omega
  clear hk1 hN hX hY hlt h1 h6 hoo
  obtain ⟨kk, hkk⟩ : ∃ z : Int, z = 6 := ⟨_, rfl⟩
  obtain ⟨ll, hll⟩ : ∃ z : Nat, z = 2 := ⟨_, rfl⟩
  obtain ⟨s, hss⟩ : ∃ z : ByteArray, z = ⟨#[]⟩ := ⟨_, rfl⟩
  have HE0 := Lib.hid (((Blk.new w #[.slice ra rn rc, .slice aa an ac, .pointer q, .int .i64 by_] 47 rfl).alloc (.cells #[.int .i64 kk, .int .i64 oo, .string s, .string u, .int .i64 n, .slice (some ⟨g, 0, none⟩) ll lc] 38)).alloc (.cells #[.int .i64 0, .int .i64 0, .string ⟨#[]⟩] 23))
  have HN0 := Lib.hid ((Blk.new (w.alloc (.cells #[.slice ra rn rc, .slice aa an ac, .pointer q, .int .i64 by_] 47)) #[.int .i64 kk, .int .i64 oo, .string s, .string u, .int .i64 n, .slice (some ⟨g, 0, none⟩) ll lc] 38 (n := w.heap.size + 1) (by simp)).alloc (.cells #[.int .i64 0, .int .i64 0, .string ⟨#[]⟩] 23))
  have HR0 := Lib.hid (Blk.new ((w.alloc (.cells #[.slice ra rn rc, .slice aa an ac, .pointer q, .int .i64 by_] 47)).alloc (.cells #[.int .i64 kk, .int .i64 oo, .string s, .string u, .int .i64 n, .slice (some ⟨g, 0, none⟩) ll lc] 38)) #[.int .i64 0, .int .i64 0, .string ⟨#[]⟩] 23 (n := w.heap.size + 1 + 1) (by simp))
  have HX0 := Lib.hid (show Below w.heap.size w (((w.alloc (.cells #[.slice ra rn rc, .slice aa an ac, .pointer q, .int .i64 by_] 47)).alloc (.cells #[.int .i64 kk, .int .i64 oo, .string s, .string u, .int .i64 n, .slice (some ⟨g, 0, none⟩) ll lc] 38)).alloc (.cells #[.int .i64 0, .int .i64 0, .string ⟨#[]⟩] 23)) by go_grown)
  subst hkk hll hss
  go_enter Tryz.func75, Tryz.ntmps75
  go_wp2_with fail
  generalize (((w.alloc (.cells #[.slice ra rn rc, .slice aa an ac, .pointer q, .int .i64 by_] 47)).alloc (.cells #[.int .i64 6, .int .i64 oo, .string ⟨#[]⟩, .string u, .int .i64 n, .slice (some ⟨g, 0, none⟩) 2 lc] 38)).alloc (.cells #[.int .i64 0, .int .i64 0, .string ⟨#[]⟩] 23)) = W0 at HE0 HN0 HR0 HX0 ⊢
  refine Calls.mono (KO.out W0 HX0.out) ?_
  rintro e w1 ⟨⟨l, rfl, hl⟩, hb1⟩
  have HE1 := Lib.hid (HE0.out.keep hb1)
  have HN1 := Lib.hid (HN0.out.keep hb1)
  have HR1 := Lib.hid (HR0.out.keep hb1)
  have HX1 := Lib.hid (show Below w.heap.size w w1 from HX0.out.trans (hb1.mono HX0.out.size))
  obtain ⟨gv, cv, rfl, hge, hgv, hcv⟩ := hl
  obtain ⟨v0, v1, v2⟩ := hcv 0 _ rfl
  obtain ⟨v3, v4, v5⟩ := hcv 1 _ rfl
  have hgvR : gv ≠ w.heap.size + 1 + 1 := by have := HR0.out.lt; omega
  have HV0 := Lib.hid (show w1.cell? ⟨gv, 0, none⟩ = some (.int .i64 (oK X)) from v0)
  have HV1 := Lib.hid (show w1.cell? ⟨gv, 1, none⟩ = some (.int .i64 (oN X)) from v1)
  have HV2 := Lib.hid (show w1.cell? ⟨gv, 2, none⟩ = some (.string ⟨#[]⟩) from v2)
  have HV3 := Lib.hid (show w1.cell? ⟨gv, 3, none⟩ = some (.int .i64 (oK Y)) from v3)
  have HV4 := Lib.hid (show w1.cell? ⟨gv, 4, none⟩ = some (.int .i64 (oN Y)) from v4)
  have HV5 := Lib.hid (show w1.cell? ⟨gv, 5, none⟩ = some (.string ⟨#[]⟩) from v5)
  clear hb1 hcv HE0 HN0 HR0 HX0 KO v0 v1 v2 v3 v4 v5
  simp only [List.length_cons, List.length_nil]
  rw [show (0 + 1 + 1 : Nat) = 2 from rfl]
  obtain ⟨cn, fn⟩ := HN1.out.facts
  have hnl := HN1.out.lt
  go_simp
  repeat (first | go_values | go_skip | go_guarded | go_step | go_upon)
  clear cn fn hnl
  generalize oK X = xk at HV0 KT ⊢
  generalize oN X = xn at HV1 KT ⊢
  generalize oK Y = yk at HV3 KT ⊢
  generalize oN Y = yn at HV4 KT ⊢
  have HF := Lib.hid (show ∀ W, LeW (· = w.heap.size + 1 + 1) #[.int .i64 (trK tt), .int .i64 (trN tt), .string ⟨#[]⟩] w1 W → (∀ j, W.cell? ⟨w.heap.size + 1, j, none⟩ = (#[.int .i64 6, .int .i64 oo, .string ⟨#[]⟩, .string u, .int .i64 n, .slice (some ⟨g, 0, none⟩) 2 lc] : Array Value)[j]?) ∧ (∀ j, W.cell? ⟨w.heap.size, j, none⟩ = (#[.slice ra rn rc, .slice aa an ac, .pointer q, .int .i64 by_] : Array Value)[j]?) ∧ W.cell? ⟨gv, 0, none⟩ = some (.int .i64 xk) ∧ W.cell? ⟨gv, 1, none⟩ = some (.int .i64 xn) ∧ W.cell? ⟨gv, 2, none⟩ = some (.string ⟨#[]⟩) ∧ W.cell? ⟨gv, 3, none⟩ = some (.int .i64 yk) ∧ W.cell? ⟨gv, 4, none⟩ = some (.int .i64 yn) ∧ W.cell? ⟨gv, 5, none⟩ = some (.string ⟨#[]⟩) from
    fun W hW => by
      have hc := fun o => cell_same (hW.old gv hgv hgvR) o
      exact ⟨(hW.blk HN1.out (by omega)).cell, (hW.blk HE1.out (by omega)).cell, (hc 0).trans HV0.out, (hc 1).trans HV1.out, (hc 2).trans HV2.out, (hc 3).trans HV3.out, (hc 4).trans HV4.out, (hc 5).trans HV5.out⟩)
  refine wp_parZG (leW (· = w.heap.size + 1 + 1) #[.int .i64 (trK tt), .int .i64 (trN tt), .string ⟨#[]⟩]) [0, 1, 2, 3, 4, 5, 6, 7, 8, 9, 10, 11, 12, 13, 14, 15] 16 16 (fun
      | 0 => fun _ v _ => v = .agg #[.slice ra rn rc, .slice aa an ac, .pointer q, .int .i64 by_]
      | 1 => fun _ v _ => v = .pointer (some ⟨w.heap.size + 1, 1, none⟩)
      | 2 => fun _ v _ => v = .int .i64 oo
      | 3 => fun _ v _ => v = .slice (some ⟨gv, 0, none⟩) 2 cv
      | 4 => fun _ v _ => v = .pointer (some ⟨gv, 0, none⟩)
      | 5 => fun _ v _ => v = .agg #[.int .i64 xk, .int .i64 xn, .string ⟨#[]⟩]
      | 6 => fun _ v _ => v = .slice (some ⟨gv, 0, none⟩) 2 cv
      | 7 => fun _ v _ => v = .pointer (some ⟨gv, 3, none⟩)
      | 8 => fun _ v _ => v = .agg #[.int .i64 yk, .int .i64 yn, .string ⟨#[]⟩]
      | 9 => fun _ v _ => v = .pointer (some ⟨w.heap.size + 1, 2, none⟩)
      | 10 => fun _ v _ => v = .string ⟨#[]⟩
      | 11 => fun _ v _ => v = .tuple #[.agg #[.int .i64 (trK tt), .int .i64 (trN tt), .string ⟨#[]⟩], .int .i64 0]
      | 12 => fun _ v _ => v = .agg #[.int .i64 (trK tt), .int .i64 (trN tt), .string ⟨#[]⟩]
      | 13 => fun _ v _ => v = .int .i64 0
      | 14 => fun _ => filledV (w.heap.size + 1 + 1) #[.int .i64 (trK tt), .int .i64 (trN tt), .string ⟨#[]⟩]
      | 15 => fun _ v _ => v = .int .i64 0
      | _ => fun _ _ _ => True) (fun
      | _ => undef) (by kernel_rfl) (by kernel_rfl) (by kernel_rfl) ?_ ?_ ?_
  · simp (maxSteps := 20000000) only [permL, permOp, List.filterMap_cons, List.filterMap_nil, List.getElem?_cons_succ, List.getElem?_cons_zero, Option.map_some, Option.map_none, List.take_succ_cons, List.take_zero, ParAllG, Act.put, List.setIfInBounds_toArray, List.set_cons_succ, List.set_cons_zero]
    refine ⟨?_, ?_, ?_, ?_, ?_, ?_, ?_, ?_, ?_, ?_, ?_, ?_, ?_, ?_, ?_, ?_, trivial⟩
    · intro vals W hx hd
      have hW := HF.out W hx
      simp [PDepsG, pdeps, Region.binds, List.idxOf_cons] at hd
      first
        | refine ParObG.plain rfl ?_
        | refine ParObG.wanted (by simp [Region.wanted, yielded, hd]) ?_
      go_simp
      exact ParPostG.same (leW (· = w.heap.size + 1 + 1) #[.int .i64 (trK tt), .int .i64 (trN tt), .string ⟨#[]⟩]) fun _ _ => rfl
    · intro vals W hx hd
      have hW := HF.out W hx
      simp [PDepsG, pdeps, Region.binds, List.idxOf_cons] at hd
      first
        | refine ParObG.plain rfl ?_
        | refine ParObG.wanted (by simp [Region.wanted, yielded, hd]) ?_
      go_simp
      exact ParPostG.same (leW (· = w.heap.size + 1 + 1) #[.int .i64 (trK tt), .int .i64 (trN tt), .string ⟨#[]⟩]) fun _ _ => rfl
    · intro vals W hx hd
      have hW := HF.out W hx
      simp [PDepsG, pdeps, Region.binds, List.idxOf_cons] at hd
      first
        | refine ParObG.plain rfl ?_
        | refine ParObG.wanted (by simp [Region.wanted, yielded, hd]) ?_
      go_simp
      exact ParPostG.same (leW (· = w.heap.size + 1 + 1) #[.int .i64 (trK tt), .int .i64 (trN tt), .string ⟨#[]⟩]) fun _ _ => rfl
    · intro vals W hx hd
      have hW := HF.out W hx
      simp [PDepsG, pdeps, Region.binds, List.idxOf_cons] at hd
      first
        | refine ParObG.plain rfl ?_
        | refine ParObG.wanted (by simp [Region.wanted, yielded, hd]) ?_
      go_simp
      exact ParPostG.same (leW (· = w.heap.size + 1 + 1) #[.int .i64 (trK tt), .int .i64 (trN tt), .string ⟨#[]⟩]) fun _ _ => rfl
    · intro vals W hx hd
      have hW := HF.out W hx
      simp [PDepsG, pdeps, Region.binds, List.idxOf_cons] at hd
      first
        | refine ParObG.plain rfl ?_
        | refine ParObG.wanted (by simp [Region.wanted, yielded, hd]) ?_
      go_simp
      exact ParPostG.same (leW (· = w.heap.size + 1 + 1) #[.int .i64 (trK tt), .int .i64 (trN tt), .string ⟨#[]⟩]) fun _ _ => rfl
    · intro vals W hx hd
      have hW := HF.out W hx
      simp [PDepsG, pdeps, Region.binds, List.idxOf_cons] at hd
      first
        | refine ParObG.plain rfl ?_
        | refine ParObG.wanted (by simp [Region.wanted, yielded, hd]) ?_
      go_simp
      exact ParPostG.same (leW (· = w.heap.size + 1 + 1) #[.int .i64 (trK tt), .int .i64 (trN tt), .string ⟨#[]⟩]) fun _ _ => rfl
    · intro vals W hx hd
      have hW := HF.out W hx
      simp [PDepsG, pdeps, Region.binds, List.idxOf_cons] at hd
      first
        | refine ParObG.plain rfl ?_
        | refine ParObG.wanted (by simp [Region.wanted, yielded, hd]) ?_
      go_simp
      exact ParPostG.same (leW (· = w.heap.size + 1 + 1) #[.int .i64 (trK tt), .int .i64 (trN tt), .string ⟨#[]⟩]) fun _ _ => rfl
    · intro vals W hx hd
      have hW := HF.out W hx
      simp [PDepsG, pdeps, Region.binds, List.idxOf_cons] at hd
      first
        | refine ParObG.plain rfl ?_
        | refine ParObG.wanted (by simp [Region.wanted, yielded, hd]) ?_
      go_simp
      exact ParPostG.same (leW (· = w.heap.size + 1 + 1) #[.int .i64 (trK tt), .int .i64 (trN tt), .string ⟨#[]⟩]) fun _ _ => rfl
    · intro vals W hx hd
      have hW := HF.out W hx
      simp [PDepsG, pdeps, Region.binds, List.idxOf_cons] at hd
      first
        | refine ParObG.plain rfl ?_
        | refine ParObG.wanted (by simp [Region.wanted, yielded, hd]) ?_
      go_simp
      exact ParPostG.same (leW (· = w.heap.size + 1 + 1) #[.int .i64 (trK tt), .int .i64 (trN tt), .string ⟨#[]⟩]) fun _ _ => rfl
    · intro vals W hx hd
      have hW := HF.out W hx
      simp [PDepsG, pdeps, Region.binds, List.idxOf_cons] at hd
      first
        | refine ParObG.plain rfl ?_
        | refine ParObG.wanted (by simp [Region.wanted, yielded, hd]) ?_
      go_simp
      exact ParPostG.same (leW (· = w.heap.size + 1 + 1) #[.int .i64 (trK tt), .int .i64 (trN tt), .string ⟨#[]⟩]) fun _ _ => rfl
    · intro vals W hx hd
      have hW := HF.out W hx
      simp [PDepsG, pdeps, Region.binds, List.idxOf_cons] at hd
      first
        | refine ParObG.plain rfl ?_
        | refine ParObG.wanted (by simp [Region.wanted, yielded, hd]) ?_
      go_simp
      exact ParPostG.same (leW (· = w.heap.size + 1 + 1) #[.int .i64 (trK tt), .int .i64 (trN tt), .string ⟨#[]⟩]) fun _ _ => rfl
    · intro vals W hx hd
      have hW := HF.out W hx
      simp [PDepsG, pdeps, Region.binds, List.idxOf_cons] at hd
      first
        | refine ParObG.plain rfl ?_
        | refine ParObG.wanted (by simp [Region.wanted, yielded, hd]) ?_
      go_simp
      refine (KT.out W).mono ?_
      rintro e w9 ⟨rfl, hb9⟩
      exact ⟨_, rfl, LeW.ofExt hb9, fun _ _ => rfl⟩
    · intro vals W hx hd
      have hW := HF.out W hx
      simp [PDepsG, pdeps, Region.binds, List.idxOf_cons] at hd
      first
        | refine ParObG.plain rfl ?_
        | refine ParObG.wanted (by simp [Region.wanted, yielded, hd]) ?_
      go_simp
      exact ParPostG.same (leW (· = w.heap.size + 1 + 1) #[.int .i64 (trK tt), .int .i64 (trN tt), .string ⟨#[]⟩]) fun _ _ => rfl
    · intro vals W hx hd
      have hW := HF.out W hx
      simp [PDepsG, pdeps, Region.binds, List.idxOf_cons] at hd
      first
        | refine ParObG.plain rfl ?_
        | refine ParObG.wanted (by simp [Region.wanted, yielded, hd]) ?_
      go_simp
      exact ParPostG.same (leW (· = w.heap.size + 1 + 1) #[.int .i64 (trK tt), .int .i64 (trN tt), .string ⟨#[]⟩]) fun _ _ => rfl
    · intro vals W hx hd
      have hW := HF.out W hx
      simp [PDepsG, pdeps, Region.binds, List.idxOf_cons] at hd
      first
        | refine ParObG.plain rfl ?_
        | refine ParObG.wanted (by simp [Region.wanted, yielded, hd]) ?_
      obtain ⟨cs, hcs1, hcs2⟩ := hx.row _ _ HR1.out rfl
      refine yields_storeV (cs := #[.int .i64 (trK tt), .int .i64 (trN tt), .string ⟨#[]⟩]) rfl (by simp [Act.eval]) (by simp [Act.eval, hd]) hcs1 hcs2 rfl (by simp [Value.oneCell']) ?_
      exact ⟨LeW.setRow hcs1 rfl rfl, fun w3 h3 => h3.keep _ (setRow_heap _ _ cs _ _ _ hcs1)⟩
    · intro vals W hx hd
      have hW := HF.out W hx
      simp [PDepsG, pdeps, Region.binds, List.idxOf_cons] at hd
      first
        | refine ParObG.plain rfl ?_
        | refine ParObG.wanted (by simp [Region.wanted, yielded, hd]) ?_
      go_simp
      exact ParPostG.same (leW (· = w.heap.size + 1 + 1) #[.int .i64 (trK tt), .int .i64 (trN tt), .string ⟨#[]⟩]) fun _ _ => rfl
  · simp (maxSteps := 20000000) only [permL, permOp, List.filterMap_cons, List.filterMap_nil, List.getElem?_cons_succ, List.getElem?_cons_zero, Option.map_some, Option.map_none, List.drop_succ_cons, List.drop_zero, List.take_succ_cons, List.take_zero, Nat.reduceSub, ZAll, ParEnd, Act.put, List.setIfInBounds_toArray, List.set_cons_succ, List.set_cons_zero]
  intro vals W hx hf hz
  simp (maxSteps := 20000000) only [permL, permOp, List.filterMap_cons, List.filterMap_nil, List.getElem?_cons_succ, List.getElem?_cons_zero, Option.map_some, Option.map_none, ParFactsG, List.take_succ_cons, List.take_zero, and_true, Nat.reduceAdd] at hf
  obtain ⟨f0, f1, f2, f3, f4, f5, f6, f7, f8, f9, f10, f11, f12, f13, f14, f15⟩ := hf
  clear hz
  simp (maxSteps := 20000000) only [permL, permOp, List.filterMap_cons, List.filterMap_nil, List.getElem?_cons_succ, List.getElem?_cons_zero, Option.map_some, Option.map_none, List.drop_succ_cons, List.drop_zero, List.take_succ_cons, List.take_zero, Nat.reduceSub, ParEnd, ZTail, Act.put, List.setIfInBounds_toArray, List.set_cons_succ, List.set_cons_zero, Nat.reduceAdd, f0, f1, f2, f3, f4, f5, f6, f7, f8, f9, f10, f11, f12, f13, f15]
  clear f0 f1 f2 f3 f4 f5 f6 f7 f8 f9 f10 f11 f12 f13 f15
  have HX2 := Lib.hid (LeW.below HX1.out hx fun i hi => by omega)
  have HR2 := Lib.hid (show Blk W (w.heap.size + 1 + 1) #[.int .i64 (trK tt), .int .i64 (trN tt), .string ⟨#[]⟩] 23 from f14)
  clear hx HF f14
  go_simp
  repeat (first | go_values | go_skip | go_guarded | go_step | go_upon)
  refine bodyPost_ret (ret_vE2 rfl _ rfl rfl HR2.out) rfl ?_
  exact ⟨rfl, HX2.out⟩
end Go.Proofs.YtbdaebjpgdpcnaaGreatDoor
