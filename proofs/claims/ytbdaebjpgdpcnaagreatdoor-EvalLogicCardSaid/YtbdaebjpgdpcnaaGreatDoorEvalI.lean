/-
  BETWEEN (Env.between); AND, OR by Env.binary.
-/
import Derived.Test.YtbdaebjpgdpcnaaGreatDoorEvalH
namespace Go.Proofs.YtbdaebjpgdpcnaaGreatDoor
open Go.RowKit Go.Lib
set_option maxRecDepth 100000

set_option maxHeartbeats 8000000 in
theorem binary_short (oo : Int) (hop : oo = 18 ∨ oo = 19) (s u : ByteArray) (n : Int) (g lc : Nat) (x y : N6) (a b : Nat) (ha : a < 3) (hb : b < 3) (ra : Option Addr) (rn rc : Nat) (aa : Option Addr) (an ac : Nat) (q : Option Addr) (by_ : Int) (w : World)
    (hN : NdAt w g [x, y]) (hX : Ev w (evV ra rn rc aa an ac q by_) x (tr3 a) 0) (hY : ¬ ((oo = 18 ∧ a = 0) ∨ (oo = 19 ∧ a = 1)) → Ev w (evV ra rn rc aa an ac q by_) y (tr3 b) 0) :
    Calls Tryz.prog 75 #[evV ra rn rc aa an ac q by_, ndE 6 oo s u n (some ⟨g, 0, none⟩) 2 lc] w fun e w' => e = .returned (.tuple #[trV (shT oo a b), .int .i64 0]) ∧ Below w.heap.size w w' := by
  have KS := Lib.hid (fun W (hW : Ext w W) => short_any oo hop s u n g lc x y a b ha hb ra rn rc aa an ac q by_ W (hN.ext hW) (hX.ext hW) (fun h => (hY h).ext hW))
  rw [trV_eq _ (shT_lt oo a b)] at KS ⊢
  generalize trK (shT oo a b) = rk at KS ⊢
  generalize trN (shT oo a b) = rn' at KS ⊢
  simp only [evV, ndE] at KS ⊢
  clear hN hX hY
  obtain ⟨kk, hkk⟩ : ∃ z : Int, z = 6 := ⟨_, rfl⟩
  obtain ⟨ll, hll⟩ : ∃ z : Nat, z = 2 := ⟨_, rfl⟩
  have HE0 := Lib.hid (((Blk.new w #[.slice ra rn rc, .slice aa an ac, .pointer q, .int .i64 by_] 47 rfl).alloc (.cells #[.int .i64 kk, .int .i64 oo, .string s, .string u, .int .i64 n, .slice (some ⟨g, 0, none⟩) ll lc] 38)).alloc (.cells #[.int .i64 0, .int .i64 0, .string ⟨#[]⟩] 23))
  have HN0 := Lib.hid ((Blk.new (w.alloc (.cells #[.slice ra rn rc, .slice aa an ac, .pointer q, .int .i64 by_] 47)) #[.int .i64 kk, .int .i64 oo, .string s, .string u, .int .i64 n, .slice (some ⟨g, 0, none⟩) ll lc] 38 (n := w.heap.size + 1) (by simp)).alloc (.cells #[.int .i64 0, .int .i64 0, .string ⟨#[]⟩] 23))
  have HR0 := Lib.hid (Blk.new ((w.alloc (.cells #[.slice ra rn rc, .slice aa an ac, .pointer q, .int .i64 by_] 47)).alloc (.cells #[.int .i64 kk, .int .i64 oo, .string s, .string u, .int .i64 n, .slice (some ⟨g, 0, none⟩) ll lc] 38)) #[.int .i64 0, .int .i64 0, .string ⟨#[]⟩] 23 (n := w.heap.size + 1 + 1) (by simp))
  have HX0 := Lib.hid (show Below w.heap.size w (((w.alloc (.cells #[.slice ra rn rc, .slice aa an ac, .pointer q, .int .i64 by_] 47)).alloc (.cells #[.int .i64 kk, .int .i64 oo, .string s, .string u, .int .i64 n, .slice (some ⟨g, 0, none⟩) ll lc] 38)).alloc (.cells #[.int .i64 0, .int .i64 0, .string ⟨#[]⟩] 23)) by go_grown)
  subst hkk hll
  rcases hop with rfl | rfl
  all_goals
    go_enter Tryz.func75, Tryz.ntmps75
    go_wp2_with fail
    refine Calls.mono (KS.out _ HX0.out) ?_
    rintro e W1 ⟨rfl, hb1⟩
    have HR1 := Lib.hid (HR0.out.keep hb1)
    have HX1 := Lib.hid (show Below w.heap.size w W1 from HX0.out.trans (hb1.mono HX0.out.size))
    clear hb1
    obtain ⟨cR, fR⟩ := HR1.out.facts
    have hRl := HR1.out.lt
    go_simp
    repeat (first | go_values | go_skip | go_guarded | go_step | go_upon)
    refine bodyPost_ret (ret_vE2 rfl _ rfl rfl (blk3 HR1.out _ _ _)) rfl ?_
    exact ⟨rfl, below3 HX1.out (by omega) _ _ _⟩
def btw (n : Int) (X Y Z : Option Int) : Nat := if n = 1 then notT (andT (tst 6 X Y) (tst 4 X Z)) else andT (tst 6 X Y) (tst 4 X Z)
theorem btw_lt (n : Int) (X Y Z : Option Int) : btw n X Y Z < 3 := by unfold btw; split <;> first | exact notT_lt _ | exact andT_lt _ _
set_option maxHeartbeats 16000000 in
theorem between_any (oo : Int) (u : ByteArray) (n : Int) (hn : n = 0 ∨ n = 1) (g lc : Nat) (x y z : N6) (X Y Z : Option Int) (ra : Option Addr) (rn rc : Nat) (aa : Option Addr) (an ac : Nat) (q : Option Addr) (by_ : Int) (w : World)
    (hN : NdAt w g [x, y, z]) (hX : Ev w (evV ra rn rc aa an ac q by_) x (o3 X) 0) (hY : Ev w (evV ra rn rc aa an ac q by_) y (o3 Y) 0) (hZ : Ev w (evV ra rn rc aa an ac q by_) z (o3 Z) 0) :
    Calls Tryz.prog 79 #[evV ra rn rc aa an ac q by_, ndE 10 oo ⟨#[]⟩ u n (some ⟨g, 0, none⟩) 3 lc] w fun e w' => e = .returned (.tuple #[trV (btw n X Y Z), .int .i64 0]) ∧ Below w.heap.size w w' := by
  have mixed : Tryz.prog.follows .mixedOrders = true := by kernel_rfl
  have KO := Lib.hid (fun W (hW : Ext w W) => operands_any 10 oo ⟨#[]⟩ u n g lc [x, y, z] [o3 X, o3 Y, o3 Z] 3 3 ra rn rc aa an ac q by_ W (hN.ext hW) rfl (fun i m v hy hv => by
    have hi : i = 0 ∨ i = 1 ∨ i = 2 := by have := (List.getElem?_eq_some_iff.1 hy).1; simp at this; omega
    rcases hi with rfl | rfl | rfl
    · obtain rfl : x = m := by simpa using hy
      obtain rfl : o3 X = v := by simpa using hv
      exact hX.ext hW
    · obtain rfl : y = m := by simpa using hy
      obtain rfl : o3 Y = v := by simpa using hv
      exact hY.ext hW
    · obtain rfl : z = m := by simpa using hy
      obtain rfl : o3 Z = v := by simpa using hv
      exact hZ.ext hW) (by simp) (by simp) (by simp) (by simp))
  have KT1 := Lib.hid (fun W => test_any 6 X Y ra rn rc aa an ac q by_ W (by decide) (by decide))
  have KT2 := Lib.hid (fun W => test_any 4 X Z ra rn rc aa an ac q by_ W (by decide) (by decide))
  have l1 := tst_lt 6 X Y
  have l2 := tst_lt 4 X Z
  have hb : btw n X Y Z = if n = 1 then notT (andT (tst 6 X Y) (tst 4 X Z)) else andT (tst 6 X Y) (tst 4 X Z) := rfl
  rw [trV_eq _ (btw_lt n X Y Z)]
  rw [trV_eq _ l1] at KT1
  rw [trV_eq _ l2] at KT2
  generalize btw n X Y Z = r at hb ⊢
  generalize tst 6 X Y = p1 at KT1 l1 hb
  generalize tst 4 X Z = p2 at KT2 l2 hb
  have KA := Lib.hid (and_any p1 p2 l1 l2)
  have KU := Lib.hid (fun W => turned_any 10 oo ⟨#[]⟩ u n (some ⟨g, 0, none⟩) 3 lc (andT p1 p2) (andT_lt p1 p2) W hn)
  rw [← hb] at KU
  have hr : r < 3 := by rw [hb]; split <;> first | exact notT_lt _ | exact andT_lt _ _
  rw [trV_eq _ (andT_lt p1 p2), trV_eq _ l1, trV_eq _ l2] at KA
  rw [trV_eq _ (andT_lt p1 p2), trV_eq _ hr] at KU
  generalize andT p1 p2 = p3 at KA KU
  simp only [evV, ndE, vV, o3, List.length_cons, List.length_nil, emp] at KO KT1 KT2 KU ⊢
  have hk1 : ((3 : Nat) : Int) = 3 := rfl
  rw [show (0 + 1 + 1 + 1 : Nat) = 3 from rfl, hk1] at KO
  rw [show ((6 : Nat) : Int) = 6 from rfl] at KT1
  rw [show ((4 : Nat) : Int) = 4 from rfl] at KT2
  clear hk1 hN hX hY hZ hb l1 l2 hr hn
  obtain ⟨kk, hkk⟩ : ∃ z : Int, z = 10 := ⟨_, rfl⟩
  obtain ⟨ll, hll⟩ : ∃ z : Nat, z = 3 := ⟨_, rfl⟩
  obtain ⟨s, hss⟩ : ∃ z : ByteArray, z = ⟨#[]⟩ := ⟨_, rfl⟩
  have HE0 := Lib.hid (((Blk.new w #[.slice ra rn rc, .slice aa an ac, .pointer q, .int .i64 by_] 47 rfl).alloc (.cells #[.int .i64 kk, .int .i64 oo, .string s, .string u, .int .i64 n, .slice (some ⟨g, 0, none⟩) ll lc] 38)).alloc (.cells #[.int .i64 0, .int .i64 0, .string ⟨#[]⟩] 23))
  have HN0 := Lib.hid ((Blk.new (w.alloc (.cells #[.slice ra rn rc, .slice aa an ac, .pointer q, .int .i64 by_] 47)) #[.int .i64 kk, .int .i64 oo, .string s, .string u, .int .i64 n, .slice (some ⟨g, 0, none⟩) ll lc] 38 (n := w.heap.size + 1) (by simp)).alloc (.cells #[.int .i64 0, .int .i64 0, .string ⟨#[]⟩] 23))
  have HR0 := Lib.hid (Blk.new ((w.alloc (.cells #[.slice ra rn rc, .slice aa an ac, .pointer q, .int .i64 by_] 47)).alloc (.cells #[.int .i64 kk, .int .i64 oo, .string s, .string u, .int .i64 n, .slice (some ⟨g, 0, none⟩) ll lc] 38)) #[.int .i64 0, .int .i64 0, .string ⟨#[]⟩] 23 (n := w.heap.size + 1 + 1) (by simp))
  have HX0 := Lib.hid (show Below w.heap.size w (((w.alloc (.cells #[.slice ra rn rc, .slice aa an ac, .pointer q, .int .i64 by_] 47)).alloc (.cells #[.int .i64 kk, .int .i64 oo, .string s, .string u, .int .i64 n, .slice (some ⟨g, 0, none⟩) ll lc] 38)).alloc (.cells #[.int .i64 0, .int .i64 0, .string ⟨#[]⟩] 23)) by go_grown)
  subst hkk hll hss
  go_enter Tryz.func79, Tryz.ntmps79
  go_wp2_with fail
  generalize (((w.alloc (.cells #[.slice ra rn rc, .slice aa an ac, .pointer q, .int .i64 by_] 47)).alloc (.cells #[.int .i64 10, .int .i64 oo, .string ⟨#[]⟩, .string u, .int .i64 n, .slice (some ⟨g, 0, none⟩) 3 lc] 38)).alloc (.cells #[.int .i64 0, .int .i64 0, .string ⟨#[]⟩] 23)) = W0 at HE0 HN0 HR0 HX0 ⊢
  refine Calls.mono (KO.out W0 HX0.out) ?_
  rintro e w1 ⟨⟨l, rfl, hl⟩, hb1⟩
  have HE1 := Lib.hid (HE0.out.keep hb1)
  have HN1 := Lib.hid (HN0.out.keep hb1)
  have HR1 := Lib.hid (HR0.out.keep hb1)
  have HX1 := Lib.hid (show Below w.heap.size w w1 from HX0.out.trans (hb1.mono HX0.out.size))
  obtain ⟨gv, cv, rfl, hge, hgv, hcv⟩ := hl
  have HVA := Lib.hid (show gv < w1.heap.size ∧ w1.cell? ⟨gv, 0, none⟩ = some (.int .i64 (oK X)) ∧ w1.cell? ⟨gv, 1, none⟩ = some (.int .i64 (oN X)) ∧ w1.cell? ⟨gv, 2, none⟩ = some (.string ⟨#[]⟩) ∧ w1.cell? ⟨gv, 3, none⟩ = some (.int .i64 (oK Y)) ∧ w1.cell? ⟨gv, 4, none⟩ = some (.int .i64 (oN Y)) ∧ w1.cell? ⟨gv, 5, none⟩ = some (.string ⟨#[]⟩) from ⟨hgv, (hcv 0 _ rfl).1, (hcv 0 _ rfl).2.1, (hcv 0 _ rfl).2.2, (hcv 1 _ rfl).1, (hcv 1 _ rfl).2.1, (hcv 1 _ rfl).2.2⟩)
  have HVB := Lib.hid (show gv < w1.heap.size ∧ w1.cell? ⟨gv, 0, none⟩ = some (.int .i64 (oK X)) ∧ w1.cell? ⟨gv, 1, none⟩ = some (.int .i64 (oN X)) ∧ w1.cell? ⟨gv, 2, none⟩ = some (.string ⟨#[]⟩) ∧ w1.cell? ⟨gv, 6, none⟩ = some (.int .i64 (oK Z)) ∧ w1.cell? ⟨gv, 7, none⟩ = some (.int .i64 (oN Z)) ∧ w1.cell? ⟨gv, 8, none⟩ = some (.string ⟨#[]⟩) from ⟨hgv, (hcv 0 _ rfl).1, (hcv 0 _ rfl).2.1, (hcv 0 _ rfl).2.2, (hcv 2 _ rfl).1, (hcv 2 _ rfl).2.1, (hcv 2 _ rfl).2.2⟩)
  clear hb1 hcv HE0 HN0 HR0 HX0 KO hge hgv
  simp only [List.length_cons, List.length_nil]
  rw [show (0 + 1 + 1 + 1 : Nat) = 3 from rfl]
  generalize oK X = xk at HVA HVB KT1 KT2
  generalize oN X = xn at HVA HVB KT1 KT2
  generalize oK Y = yk at HVA KT1
  generalize oN Y = yn at HVA KT1
  generalize oK Z = zk at HVB KT2
  generalize oN Z = zn at HVB KT2
  go_simp
  repeat (first | go_values | go_skip | go_guarded | go_step | go_upon)
  have HNA := HN1
  have HEA := HE1
  have HFA := Lib.hid (show ∀ W, LeW (w1.heap.size ≤ ·) #[.int .i64 (trK p1), .int .i64 (trN p1), .string ⟨#[]⟩] w1 W → (∀ j, W.cell? ⟨w.heap.size + 1, j, none⟩ = (#[.int .i64 10, .int .i64 oo, .string ⟨#[]⟩, .string u, .int .i64 n, .slice (some ⟨g, 0, none⟩) 3 lc] : Array Value)[j]?) ∧ (∀ j, W.cell? ⟨w.heap.size, j, none⟩ = (#[.slice ra rn rc, .slice aa an ac, .pointer q, .int .i64 by_] : Array Value)[j]?) ∧ W.cell? ⟨gv, 0, none⟩ = some (.int .i64 xk) ∧ W.cell? ⟨gv, 1, none⟩ = some (.int .i64 xn) ∧ W.cell? ⟨gv, 2, none⟩ = some (.string ⟨#[]⟩) ∧ W.cell? ⟨gv, 3, none⟩ = some (.int .i64 yk) ∧ W.cell? ⟨gv, 4, none⟩ = some (.int .i64 yn) ∧ W.cell? ⟨gv, 5, none⟩ = some (.string ⟨#[]⟩) from
    fun W hW => by
      obtain ⟨gl, q0, q1, q2, q3, q4, q5⟩ := HVA.out
      have hc := fun o => cell_same (hW.old gv gl (Nat.not_le.2 gl)) o
      exact ⟨(hW.blk HNA.out (Nat.not_le.2 HNA.out.lt)).cell, (hW.blk HEA.out (Nat.not_le.2 HEA.out.lt)).cell, (hc _).trans q0, (hc _).trans q1, (hc _).trans q2, (hc _).trans q3, (hc _).trans q4, (hc _).trans q5⟩)
  refine wp_parZG (leW (w1.heap.size ≤ ·) #[.int .i64 (trK p1), .int .i64 (trN p1), .string ⟨#[]⟩]) [0, 1, 2, 3, 4, 5, 6, 7, 8, 9, 10, 11, 12, 13, 14, 15] 16 16 (fun
      | 0 => fun _ v _ => v = .agg #[.slice ra rn rc, .slice aa an ac, .pointer q, .int .i64 by_]
      | 1 => fun _ v _ => v = .slice (some ⟨gv, 0, none⟩) 3 cv
      | 2 => fun _ v _ => v = .pointer (some ⟨gv, 0, none⟩)
      | 3 => fun _ v _ => v = .agg #[.int .i64 xk, .int .i64 xn, .string ⟨#[]⟩]
      | 4 => fun _ v _ => v = .slice (some ⟨gv, 0, none⟩) 3 cv
      | 5 => fun _ v _ => v = .pointer (some ⟨gv, 3, none⟩)
      | 6 => fun _ v _ => v = .agg #[.int .i64 yk, .int .i64 yn, .string ⟨#[]⟩]
      | 7 => fun _ v _ => v = .pointer (some ⟨w.heap.size + 1, 2, none⟩)
      | 8 => fun _ v _ => v = .string ⟨#[]⟩
      | 9 => fun _ v _ => v = .tuple #[.agg #[.int .i64 (trK p1), .int .i64 (trN p1), .string ⟨#[]⟩], .int .i64 0]
      | 10 => fun _ v _ => v = .tuple #[.agg #[.int .i64 (trK p1), .int .i64 (trN p1), .string ⟨#[]⟩], .int .i64 0]
      | 11 => fun _ v _ => v = .agg #[.int .i64 (trK p1), .int .i64 (trN p1), .string ⟨#[]⟩]
      | 12 => fun _ v _ => v = .int .i64 0
      | 13 => fun _ => newVa w1.heap.size
      | 14 => storedV w1.heap.size #[.int .i64 (trK p1), .int .i64 (trN p1), .string ⟨#[]⟩]
      | 15 => fun _ v _ => v = .int .i64 0
      | _ => fun _ _ _ => True) (fun
      | _ => undef) (by kernel_rfl) (by kernel_rfl) (by kernel_rfl) ?_ ?_ ?_
  · simp (maxSteps := 20000000) only [permL, permOp, List.filterMap_cons, List.filterMap_nil, List.getElem?_cons_succ, List.getElem?_cons_zero, Option.map_some, Option.map_none, List.take_succ_cons, List.take_zero, ParAllG, Act.put, List.setIfInBounds_toArray, List.set_cons_succ, List.set_cons_zero]
    refine ⟨?_, ?_, ?_, ?_, ?_, ?_, ?_, ?_, ?_, ?_, ?_, ?_, ?_, ?_, ?_, ?_, trivial⟩
    · intro vals W hx hd
      have hW := HFA.out W hx
      simp [PDepsG, pdeps, Region.binds, List.idxOf_cons] at hd
      first
        | refine ParObG.plain rfl ?_
        | refine ParObG.wanted (by simp [Region.wanted, yielded, hd]) ?_
      go_simp
      exact ParPostG.same (leW (w1.heap.size ≤ ·) #[.int .i64 (trK p1), .int .i64 (trN p1), .string ⟨#[]⟩]) fun _ _ => rfl
    · intro vals W hx hd
      have hW := HFA.out W hx
      simp [PDepsG, pdeps, Region.binds, List.idxOf_cons] at hd
      first
        | refine ParObG.plain rfl ?_
        | refine ParObG.wanted (by simp [Region.wanted, yielded, hd]) ?_
      go_simp
      exact ParPostG.same (leW (w1.heap.size ≤ ·) #[.int .i64 (trK p1), .int .i64 (trN p1), .string ⟨#[]⟩]) fun _ _ => rfl
    · intro vals W hx hd
      have hW := HFA.out W hx
      simp [PDepsG, pdeps, Region.binds, List.idxOf_cons] at hd
      first
        | refine ParObG.plain rfl ?_
        | refine ParObG.wanted (by simp [Region.wanted, yielded, hd]) ?_
      go_simp
      exact ParPostG.same (leW (w1.heap.size ≤ ·) #[.int .i64 (trK p1), .int .i64 (trN p1), .string ⟨#[]⟩]) fun _ _ => rfl
    · intro vals W hx hd
      have hW := HFA.out W hx
      simp [PDepsG, pdeps, Region.binds, List.idxOf_cons] at hd
      first
        | refine ParObG.plain rfl ?_
        | refine ParObG.wanted (by simp [Region.wanted, yielded, hd]) ?_
      go_simp
      exact ParPostG.same (leW (w1.heap.size ≤ ·) #[.int .i64 (trK p1), .int .i64 (trN p1), .string ⟨#[]⟩]) fun _ _ => rfl
    · intro vals W hx hd
      have hW := HFA.out W hx
      simp [PDepsG, pdeps, Region.binds, List.idxOf_cons] at hd
      first
        | refine ParObG.plain rfl ?_
        | refine ParObG.wanted (by simp [Region.wanted, yielded, hd]) ?_
      go_simp
      exact ParPostG.same (leW (w1.heap.size ≤ ·) #[.int .i64 (trK p1), .int .i64 (trN p1), .string ⟨#[]⟩]) fun _ _ => rfl
    · intro vals W hx hd
      have hW := HFA.out W hx
      simp [PDepsG, pdeps, Region.binds, List.idxOf_cons] at hd
      first
        | refine ParObG.plain rfl ?_
        | refine ParObG.wanted (by simp [Region.wanted, yielded, hd]) ?_
      go_simp
      exact ParPostG.same (leW (w1.heap.size ≤ ·) #[.int .i64 (trK p1), .int .i64 (trN p1), .string ⟨#[]⟩]) fun _ _ => rfl
    · intro vals W hx hd
      have hW := HFA.out W hx
      simp [PDepsG, pdeps, Region.binds, List.idxOf_cons] at hd
      first
        | refine ParObG.plain rfl ?_
        | refine ParObG.wanted (by simp [Region.wanted, yielded, hd]) ?_
      go_simp
      exact ParPostG.same (leW (w1.heap.size ≤ ·) #[.int .i64 (trK p1), .int .i64 (trN p1), .string ⟨#[]⟩]) fun _ _ => rfl
    · intro vals W hx hd
      have hW := HFA.out W hx
      simp [PDepsG, pdeps, Region.binds, List.idxOf_cons] at hd
      first
        | refine ParObG.plain rfl ?_
        | refine ParObG.wanted (by simp [Region.wanted, yielded, hd]) ?_
      go_simp
      exact ParPostG.same (leW (w1.heap.size ≤ ·) #[.int .i64 (trK p1), .int .i64 (trN p1), .string ⟨#[]⟩]) fun _ _ => rfl
    · intro vals W hx hd
      have hW := HFA.out W hx
      simp [PDepsG, pdeps, Region.binds, List.idxOf_cons] at hd
      first
        | refine ParObG.plain rfl ?_
        | refine ParObG.wanted (by simp [Region.wanted, yielded, hd]) ?_
      go_simp
      exact ParPostG.same (leW (w1.heap.size ≤ ·) #[.int .i64 (trK p1), .int .i64 (trN p1), .string ⟨#[]⟩]) fun _ _ => rfl
    · intro vals W hx hd
      have hW := HFA.out W hx
      simp [PDepsG, pdeps, Region.binds, List.idxOf_cons] at hd
      first
        | refine ParObG.plain rfl ?_
        | refine ParObG.wanted (by simp [Region.wanted, yielded, hd]) ?_
      go_simp
      refine (KT1.out W).mono ?_
      rintro e w9 ⟨rfl, hb9⟩
      exact ⟨_, rfl, LeW.ofExt hb9, fun _ _ => rfl⟩
    · intro vals W hx hd
      have hW := HFA.out W hx
      simp [PDepsG, pdeps, Region.binds, List.idxOf_cons] at hd
      first
        | refine ParObG.plain rfl ?_
        | refine ParObG.wanted (by simp [Region.wanted, yielded, hd]) ?_
      go_simp
      exact ParPostG.same (leW (w1.heap.size ≤ ·) #[.int .i64 (trK p1), .int .i64 (trN p1), .string ⟨#[]⟩]) fun _ _ => rfl
    · intro vals W hx hd
      have hW := HFA.out W hx
      simp [PDepsG, pdeps, Region.binds, List.idxOf_cons] at hd
      first
        | refine ParObG.plain rfl ?_
        | refine ParObG.wanted (by simp [Region.wanted, yielded, hd]) ?_
      go_simp
      exact ParPostG.same (leW (w1.heap.size ≤ ·) #[.int .i64 (trK p1), .int .i64 (trN p1), .string ⟨#[]⟩]) fun _ _ => rfl
    · intro vals W hx hd
      have hW := HFA.out W hx
      simp [PDepsG, pdeps, Region.binds, List.idxOf_cons] at hd
      first
        | refine ParObG.plain rfl ?_
        | refine ParObG.wanted (by simp [Region.wanted, yielded, hd]) ?_
      go_simp
      exact ParPostG.same (leW (w1.heap.size ≤ ·) #[.int .i64 (trK p1), .int .i64 (trN p1), .string ⟨#[]⟩]) fun _ _ => rfl
    · intro vals W hx hd
      have hW := HFA.out W hx
      simp [PDepsG, pdeps, Region.binds, List.idxOf_cons] at hd
      first
        | refine ParObG.plain rfl ?_
        | refine ParObG.wanted (by simp [Region.wanted, yielded, hd]) ?_
      go_simp
      exact ⟨LeW.ofExt ((Ext.refl _).alloc _), fun w3 h3 => by
        obtain ⟨cs, h4, h5⟩ := h3.row _ _ (Blk.new W #[.int .i64 0, .int .i64 0, .string ⟨#[]⟩] 23 rfl) rfl
        exact ⟨_, cs, rfl, hx.size, h4, h5⟩⟩
    · intro vals W hx hd
      have hW := HFA.out W hx
      simp [PDepsG, pdeps, Region.binds, List.idxOf_cons] at hd
      first
        | refine ParObG.plain rfl ?_
        | refine ParObG.wanted (by simp [Region.wanted, yielded, hd]) ?_
      obtain ⟨⟨gc, old, hgv, hge, hgb, hgs⟩, hcv⟩ := hd
      refine yields_storeV (cs := #[.int .i64 (trK p1), .int .i64 (trN p1), .string ⟨#[]⟩]) rfl (by simpa [Act.eval] using hgv) (by simp [Act.eval, hcv]) hgb hgs rfl (by simp [Value.oneCell']) ?_
      exact ⟨LeW.setRow hgb hge rfl, fun w10 h10 => ⟨gc, by simp [dv, ldeps, pdeps, Region.binds, List.idxOf_cons, hgv], hge, h10.keep gc (setRow_heap W gc old _ _ _ hgb)⟩⟩
    · intro vals W hx hd
      have hW := HFA.out W hx
      simp [PDepsG, pdeps, Region.binds, List.idxOf_cons] at hd
      first
        | refine ParObG.plain rfl ?_
        | refine ParObG.wanted (by simp [Region.wanted, yielded, hd]) ?_
      go_simp
      exact ParPostG.same (leW (w1.heap.size ≤ ·) #[.int .i64 (trK p1), .int .i64 (trN p1), .string ⟨#[]⟩]) fun _ _ => rfl
  · simp (maxSteps := 20000000) only [permL, permOp, List.filterMap_cons, List.filterMap_nil, List.getElem?_cons_succ, List.getElem?_cons_zero, Option.map_some, Option.map_none, List.drop_succ_cons, List.drop_zero, List.take_succ_cons, List.take_zero, Nat.reduceSub, ZAll, ParEnd, Act.put, List.setIfInBounds_toArray, List.set_cons_succ, List.set_cons_zero]
  intro vals W hx hf hz
  simp (maxSteps := 20000000) only [permL, permOp, List.filterMap_cons, List.filterMap_nil, List.getElem?_cons_succ, List.getElem?_cons_zero, Option.map_some, Option.map_none, ParFactsG, List.take_succ_cons, List.take_zero, and_true, Nat.reduceAdd] at hf
  obtain ⟨f0, f1, f2, f3, f4, f5, f6, f7, f8, f9, f10, f11, f12, f13, f14, f15⟩ := hf
  clear hz
  simp (maxSteps := 20000000) only [permL, permOp, List.filterMap_cons, List.filterMap_nil, List.getElem?_cons_succ, List.getElem?_cons_zero, Option.map_some, Option.map_none, List.drop_succ_cons, List.drop_zero, List.take_succ_cons, List.take_zero, Nat.reduceSub, ParEnd, ZTail, Act.put, List.setIfInBounds_toArray, List.set_cons_succ, List.set_cons_zero, Nat.reduceAdd, f0, f1, f2, f3, f4, f5, f6, f7, f8, f9, f10, f11, f12, f15]
  clear f0 f1 f2 f3 f4 f5 f6 f7 f8 f9 f10 f11 f12 f15
  obtain ⟨gA, hds, hgA, hbA⟩ := f14
  simp [dv, ldeps, pdeps, Region.binds, List.idxOf_cons] at hds
  have hxE : Ext w1 W := LeW.below (Below.refl _ _) hx fun i hi => hi
  rw [hds]
  have HA2 := Lib.hid hbA
  have HN2 := Lib.hid (HN1.out.keep hxE)
  have HE2 := Lib.hid (HE1.out.keep hxE)
  have HR2 := Lib.hid (HR1.out.keep hxE)
  have HX2 := Lib.hid (show Below w.heap.size w W from Ext.trans HX1.out hxE)
  have HVB2 := Lib.hid (show gv < W.heap.size ∧ W.cell? ⟨gv, 0, none⟩ = some (.int .i64 xk) ∧ W.cell? ⟨gv, 1, none⟩ = some (.int .i64 xn) ∧ W.cell? ⟨gv, 2, none⟩ = some (.string ⟨#[]⟩) ∧ W.cell? ⟨gv, 6, none⟩ = some (.int .i64 zk) ∧ W.cell? ⟨gv, 7, none⟩ = some (.int .i64 zn) ∧ W.cell? ⟨gv, 8, none⟩ = some (.string ⟨#[]⟩) from by
    obtain ⟨gl, q0, q1, q2, q3, q4, q5⟩ := HVB.out
    exact ⟨Nat.lt_of_lt_of_le gl hxE.size, (hxE.cell (p := ⟨gv, _, none⟩) gl).trans q0, (hxE.cell (p := ⟨gv, _, none⟩) gl).trans q1, (hxE.cell (p := ⟨gv, _, none⟩) gl).trans q2, (hxE.cell (p := ⟨gv, _, none⟩) gl).trans q3, (hxE.cell (p := ⟨gv, _, none⟩) gl).trans q4, (hxE.cell (p := ⟨gv, _, none⟩) gl).trans q5⟩)
  have hAR : gA ≠ w.heap.size + 1 + 1 := by have := HR1.out.lt; omega
  clear hx hxE HFA f13 hds hbA hgA HE1 HN1 HR1 HX1 HNA HEA HVA HVB
  generalize W = W2 at HA2 HN2 HE2 HR2 HX2 HVB2 ⊢
  have HVB := HVB2
  have HNB := HN2
  have HEB := HE2
  go_simp
  repeat (first | go_values | go_skip | go_guarded | go_step | go_upon)
  have HFB := Lib.hid (show ∀ W, LeW (W2.heap.size ≤ ·) #[.int .i64 (trK p2), .int .i64 (trN p2), .string ⟨#[]⟩] W2 W → (∀ j, W.cell? ⟨w.heap.size + 1, j, none⟩ = (#[.int .i64 10, .int .i64 oo, .string ⟨#[]⟩, .string u, .int .i64 n, .slice (some ⟨g, 0, none⟩) 3 lc] : Array Value)[j]?) ∧ (∀ j, W.cell? ⟨w.heap.size, j, none⟩ = (#[.slice ra rn rc, .slice aa an ac, .pointer q, .int .i64 by_] : Array Value)[j]?) ∧ W.cell? ⟨gv, 0, none⟩ = some (.int .i64 xk) ∧ W.cell? ⟨gv, 1, none⟩ = some (.int .i64 xn) ∧ W.cell? ⟨gv, 2, none⟩ = some (.string ⟨#[]⟩) ∧ W.cell? ⟨gv, 6, none⟩ = some (.int .i64 zk) ∧ W.cell? ⟨gv, 7, none⟩ = some (.int .i64 zn) ∧ W.cell? ⟨gv, 8, none⟩ = some (.string ⟨#[]⟩) from
    fun W hW => by
      obtain ⟨gl, q0, q1, q2, q3, q4, q5⟩ := HVB.out
      have hc := fun o => cell_same (hW.old gv gl (Nat.not_le.2 gl)) o
      exact ⟨(hW.blk HNB.out (Nat.not_le.2 HNB.out.lt)).cell, (hW.blk HEB.out (Nat.not_le.2 HEB.out.lt)).cell, (hc _).trans q0, (hc _).trans q1, (hc _).trans q2, (hc _).trans q3, (hc _).trans q4, (hc _).trans q5⟩)
  refine wp_parZG (leW (W2.heap.size ≤ ·) #[.int .i64 (trK p2), .int .i64 (trN p2), .string ⟨#[]⟩]) [0, 1, 2, 3, 4, 5, 6, 7, 8, 9, 10, 11, 12, 13, 14, 15] 16 16 (fun
      | 0 => fun _ v _ => v = .agg #[.slice ra rn rc, .slice aa an ac, .pointer q, .int .i64 by_]
      | 1 => fun _ v _ => v = .slice (some ⟨gv, 0, none⟩) 3 cv
      | 2 => fun _ v _ => v = .pointer (some ⟨gv, 0, none⟩)
      | 3 => fun _ v _ => v = .agg #[.int .i64 xk, .int .i64 xn, .string ⟨#[]⟩]
      | 4 => fun _ v _ => v = .slice (some ⟨gv, 0, none⟩) 3 cv
      | 5 => fun _ v _ => v = .pointer (some ⟨gv, 6, none⟩)
      | 6 => fun _ v _ => v = .agg #[.int .i64 zk, .int .i64 zn, .string ⟨#[]⟩]
      | 7 => fun _ v _ => v = .pointer (some ⟨w.heap.size + 1, 2, none⟩)
      | 8 => fun _ v _ => v = .string ⟨#[]⟩
      | 9 => fun _ v _ => v = .tuple #[.agg #[.int .i64 (trK p2), .int .i64 (trN p2), .string ⟨#[]⟩], .int .i64 0]
      | 10 => fun _ v _ => v = .tuple #[.agg #[.int .i64 (trK p2), .int .i64 (trN p2), .string ⟨#[]⟩], .int .i64 0]
      | 11 => fun _ v _ => v = .agg #[.int .i64 (trK p2), .int .i64 (trN p2), .string ⟨#[]⟩]
      | 12 => fun _ v _ => v = .int .i64 0
      | 13 => fun _ => newVa W2.heap.size
      | 14 => storedV W2.heap.size #[.int .i64 (trK p2), .int .i64 (trN p2), .string ⟨#[]⟩]
      | 15 => fun _ v _ => v = .int .i64 0
      | _ => fun _ _ _ => True) (fun
      | _ => undef) (by kernel_rfl) (by kernel_rfl) (by kernel_rfl) ?_ ?_ ?_
  · simp (maxSteps := 20000000) only [permL, permOp, List.filterMap_cons, List.filterMap_nil, List.getElem?_cons_succ, List.getElem?_cons_zero, Option.map_some, Option.map_none, List.take_succ_cons, List.take_zero, ParAllG, Act.put, List.setIfInBounds_toArray, List.set_cons_succ, List.set_cons_zero]
    refine ⟨?_, ?_, ?_, ?_, ?_, ?_, ?_, ?_, ?_, ?_, ?_, ?_, ?_, ?_, ?_, ?_, trivial⟩
    · intro vals W hx hd
      have hW := HFB.out W hx
      simp [PDepsG, pdeps, Region.binds, List.idxOf_cons] at hd
      first
        | refine ParObG.plain rfl ?_
        | refine ParObG.wanted (by simp [Region.wanted, yielded, hd]) ?_
      go_simp
      exact ParPostG.same (leW (W2.heap.size ≤ ·) #[.int .i64 (trK p2), .int .i64 (trN p2), .string ⟨#[]⟩]) fun _ _ => rfl
    · intro vals W hx hd
      have hW := HFB.out W hx
      simp [PDepsG, pdeps, Region.binds, List.idxOf_cons] at hd
      first
        | refine ParObG.plain rfl ?_
        | refine ParObG.wanted (by simp [Region.wanted, yielded, hd]) ?_
      go_simp
      exact ParPostG.same (leW (W2.heap.size ≤ ·) #[.int .i64 (trK p2), .int .i64 (trN p2), .string ⟨#[]⟩]) fun _ _ => rfl
    · intro vals W hx hd
      have hW := HFB.out W hx
      simp [PDepsG, pdeps, Region.binds, List.idxOf_cons] at hd
      first
        | refine ParObG.plain rfl ?_
        | refine ParObG.wanted (by simp [Region.wanted, yielded, hd]) ?_
      go_simp
      exact ParPostG.same (leW (W2.heap.size ≤ ·) #[.int .i64 (trK p2), .int .i64 (trN p2), .string ⟨#[]⟩]) fun _ _ => rfl
    · intro vals W hx hd
      have hW := HFB.out W hx
      simp [PDepsG, pdeps, Region.binds, List.idxOf_cons] at hd
      first
        | refine ParObG.plain rfl ?_
        | refine ParObG.wanted (by simp [Region.wanted, yielded, hd]) ?_
      go_simp
      exact ParPostG.same (leW (W2.heap.size ≤ ·) #[.int .i64 (trK p2), .int .i64 (trN p2), .string ⟨#[]⟩]) fun _ _ => rfl
    · intro vals W hx hd
      have hW := HFB.out W hx
      simp [PDepsG, pdeps, Region.binds, List.idxOf_cons] at hd
      first
        | refine ParObG.plain rfl ?_
        | refine ParObG.wanted (by simp [Region.wanted, yielded, hd]) ?_
      go_simp
      exact ParPostG.same (leW (W2.heap.size ≤ ·) #[.int .i64 (trK p2), .int .i64 (trN p2), .string ⟨#[]⟩]) fun _ _ => rfl
    · intro vals W hx hd
      have hW := HFB.out W hx
      simp [PDepsG, pdeps, Region.binds, List.idxOf_cons] at hd
      first
        | refine ParObG.plain rfl ?_
        | refine ParObG.wanted (by simp [Region.wanted, yielded, hd]) ?_
      go_simp
      exact ParPostG.same (leW (W2.heap.size ≤ ·) #[.int .i64 (trK p2), .int .i64 (trN p2), .string ⟨#[]⟩]) fun _ _ => rfl
    · intro vals W hx hd
      have hW := HFB.out W hx
      simp [PDepsG, pdeps, Region.binds, List.idxOf_cons] at hd
      first
        | refine ParObG.plain rfl ?_
        | refine ParObG.wanted (by simp [Region.wanted, yielded, hd]) ?_
      go_simp
      exact ParPostG.same (leW (W2.heap.size ≤ ·) #[.int .i64 (trK p2), .int .i64 (trN p2), .string ⟨#[]⟩]) fun _ _ => rfl
    · intro vals W hx hd
      have hW := HFB.out W hx
      simp [PDepsG, pdeps, Region.binds, List.idxOf_cons] at hd
      first
        | refine ParObG.plain rfl ?_
        | refine ParObG.wanted (by simp [Region.wanted, yielded, hd]) ?_
      go_simp
      exact ParPostG.same (leW (W2.heap.size ≤ ·) #[.int .i64 (trK p2), .int .i64 (trN p2), .string ⟨#[]⟩]) fun _ _ => rfl
    · intro vals W hx hd
      have hW := HFB.out W hx
      simp [PDepsG, pdeps, Region.binds, List.idxOf_cons] at hd
      first
        | refine ParObG.plain rfl ?_
        | refine ParObG.wanted (by simp [Region.wanted, yielded, hd]) ?_
      go_simp
      exact ParPostG.same (leW (W2.heap.size ≤ ·) #[.int .i64 (trK p2), .int .i64 (trN p2), .string ⟨#[]⟩]) fun _ _ => rfl
    · intro vals W hx hd
      have hW := HFB.out W hx
      simp [PDepsG, pdeps, Region.binds, List.idxOf_cons] at hd
      first
        | refine ParObG.plain rfl ?_
        | refine ParObG.wanted (by simp [Region.wanted, yielded, hd]) ?_
      go_simp
      refine (KT2.out W).mono ?_
      rintro e w9 ⟨rfl, hb9⟩
      exact ⟨_, rfl, LeW.ofExt hb9, fun _ _ => rfl⟩
    · intro vals W hx hd
      have hW := HFB.out W hx
      simp [PDepsG, pdeps, Region.binds, List.idxOf_cons] at hd
      first
        | refine ParObG.plain rfl ?_
        | refine ParObG.wanted (by simp [Region.wanted, yielded, hd]) ?_
      go_simp
      exact ParPostG.same (leW (W2.heap.size ≤ ·) #[.int .i64 (trK p2), .int .i64 (trN p2), .string ⟨#[]⟩]) fun _ _ => rfl
    · intro vals W hx hd
      have hW := HFB.out W hx
      simp [PDepsG, pdeps, Region.binds, List.idxOf_cons] at hd
      first
        | refine ParObG.plain rfl ?_
        | refine ParObG.wanted (by simp [Region.wanted, yielded, hd]) ?_
      go_simp
      exact ParPostG.same (leW (W2.heap.size ≤ ·) #[.int .i64 (trK p2), .int .i64 (trN p2), .string ⟨#[]⟩]) fun _ _ => rfl
    · intro vals W hx hd
      have hW := HFB.out W hx
      simp [PDepsG, pdeps, Region.binds, List.idxOf_cons] at hd
      first
        | refine ParObG.plain rfl ?_
        | refine ParObG.wanted (by simp [Region.wanted, yielded, hd]) ?_
      go_simp
      exact ParPostG.same (leW (W2.heap.size ≤ ·) #[.int .i64 (trK p2), .int .i64 (trN p2), .string ⟨#[]⟩]) fun _ _ => rfl
    · intro vals W hx hd
      have hW := HFB.out W hx
      simp [PDepsG, pdeps, Region.binds, List.idxOf_cons] at hd
      first
        | refine ParObG.plain rfl ?_
        | refine ParObG.wanted (by simp [Region.wanted, yielded, hd]) ?_
      go_simp
      exact ⟨LeW.ofExt ((Ext.refl _).alloc _), fun w3 h3 => by
        obtain ⟨cs, h4, h5⟩ := h3.row _ _ (Blk.new W #[.int .i64 0, .int .i64 0, .string ⟨#[]⟩] 23 rfl) rfl
        exact ⟨_, cs, rfl, hx.size, h4, h5⟩⟩
    · intro vals W hx hd
      have hW := HFB.out W hx
      simp [PDepsG, pdeps, Region.binds, List.idxOf_cons] at hd
      first
        | refine ParObG.plain rfl ?_
        | refine ParObG.wanted (by simp [Region.wanted, yielded, hd]) ?_
      obtain ⟨⟨gc, old, hgv, hge, hgb, hgs⟩, hcv⟩ := hd
      refine yields_storeV (cs := #[.int .i64 (trK p2), .int .i64 (trN p2), .string ⟨#[]⟩]) rfl (by simpa [Act.eval] using hgv) (by simp [Act.eval, hcv]) hgb hgs rfl (by simp [Value.oneCell']) ?_
      exact ⟨LeW.setRow hgb hge rfl, fun w10 h10 => ⟨gc, by simp [dv, ldeps, pdeps, Region.binds, List.idxOf_cons, hgv], hge, h10.keep gc (setRow_heap W gc old _ _ _ hgb)⟩⟩
    · intro vals W hx hd
      have hW := HFB.out W hx
      simp [PDepsG, pdeps, Region.binds, List.idxOf_cons] at hd
      first
        | refine ParObG.plain rfl ?_
        | refine ParObG.wanted (by simp [Region.wanted, yielded, hd]) ?_
      go_simp
      exact ParPostG.same (leW (W2.heap.size ≤ ·) #[.int .i64 (trK p2), .int .i64 (trN p2), .string ⟨#[]⟩]) fun _ _ => rfl
  · simp (maxSteps := 20000000) only [permL, permOp, List.filterMap_cons, List.filterMap_nil, List.getElem?_cons_succ, List.getElem?_cons_zero, Option.map_some, Option.map_none, List.drop_succ_cons, List.drop_zero, List.take_succ_cons, List.take_zero, Nat.reduceSub, ZAll, ParEnd, Act.put, List.setIfInBounds_toArray, List.set_cons_succ, List.set_cons_zero]
  intro vals W hx hf hz
  simp (maxSteps := 20000000) only [permL, permOp, List.filterMap_cons, List.filterMap_nil, List.getElem?_cons_succ, List.getElem?_cons_zero, Option.map_some, Option.map_none, ParFactsG, List.take_succ_cons, List.take_zero, and_true, Nat.reduceAdd] at hf
  obtain ⟨f0, f1, f2, f3, f4, f5, f6, f7, f8, f9, f10, f11, f12, f13, f14, f15⟩ := hf
  clear hz
  simp (maxSteps := 20000000) only [permL, permOp, List.filterMap_cons, List.filterMap_nil, List.getElem?_cons_succ, List.getElem?_cons_zero, Option.map_some, Option.map_none, List.drop_succ_cons, List.drop_zero, List.take_succ_cons, List.take_zero, Nat.reduceSub, ParEnd, ZTail, Act.put, List.setIfInBounds_toArray, List.set_cons_succ, List.set_cons_zero, Nat.reduceAdd, f0, f1, f2, f3, f4, f5, f6, f7, f8, f9, f10, f11, f12, f15]
  clear f0 f1 f2 f3 f4 f5 f6 f7 f8 f9 f10 f11 f12 f15
  obtain ⟨gB, hds, hgB, hbB⟩ := f14
  simp [dv, ldeps, pdeps, Region.binds, List.idxOf_cons] at hds
  have hxE : Ext W2 W := LeW.below (Below.refl _ _) hx fun i hi => hi
  rw [hds]
  have HB3 := Lib.hid hbB
  have HA3 := Lib.hid (HA2.out.keep hxE)
  have HN3 := Lib.hid (HN2.out.keep hxE)
  have HR3 := Lib.hid (HR2.out.keep hxE)
  have HX3 := Lib.hid (show Below w.heap.size w W from Ext.trans HX2.out hxE)
  have hBR : gB ≠ w.heap.size + 1 + 1 := by have := HR2.out.lt; omega
  clear hx hxE HFB f13 hds hbB hgB HE2 HN2 HR2 HX2 HNB HEB HVB HVB2 HA2
  generalize W = W3 at HA3 HB3 HN3 HR3 HX3 ⊢
  go_simp
  repeat (first | go_values | go_skip | go_guarded | go_step | go_upon)
  have HF := Lib.hid (show ∀ W, LeW (· = w.heap.size + 1 + 1) #[.int .i64 (trK r), .int .i64 (trN r), .string ⟨#[]⟩] W3 W → (∀ j, W.cell? ⟨w.heap.size + 1, j, none⟩ = (#[.int .i64 10, .int .i64 oo, .string ⟨#[]⟩, .string u, .int .i64 n, .slice (some ⟨g, 0, none⟩) 3 lc] : Array Value)[j]?) ∧ (∀ j, W.cell? ⟨gA, j, none⟩ = (#[.int .i64 (trK p1), .int .i64 (trN p1), .string ⟨#[]⟩] : Array Value)[j]?) ∧ (∀ j, W.cell? ⟨gB, j, none⟩ = (#[.int .i64 (trK p2), .int .i64 (trN p2), .string ⟨#[]⟩] : Array Value)[j]?) from
    fun W hW => ⟨(hW.blk HN3.out (by omega)).cell, (hW.blk HA3.out hAR).cell, (hW.blk HB3.out hBR).cell⟩)
  refine wp_parZG (leW (· = w.heap.size + 1 + 1) #[.int .i64 (trK r), .int .i64 (trN r), .string ⟨#[]⟩]) [0, 1, 2, 3, 4, 5, 6, 7, 8] 9 9 (fun
      | 0 => fun _ v _ => v = .agg #[.int .i64 10, .int .i64 oo, .string ⟨#[]⟩, .string u, .int .i64 n, .slice (some ⟨g, 0, none⟩) 3 lc]
      | 1 => fun _ v _ => v = .agg #[.int .i64 (trK p1), .int .i64 (trN p1), .string ⟨#[]⟩]
      | 2 => fun _ v _ => v = .agg #[.int .i64 (trK p2), .int .i64 (trN p2), .string ⟨#[]⟩]
      | 3 => fun _ v _ => v = .agg #[.int .i64 (trK p3), .int .i64 (trN p3), .string ⟨#[]⟩]
      | 4 => fun _ v _ => v = .tuple #[.agg #[.int .i64 (trK r), .int .i64 (trN r), .string ⟨#[]⟩], .int .i64 0]
      | 5 => fun _ v _ => v = .agg #[.int .i64 (trK r), .int .i64 (trN r), .string ⟨#[]⟩]
      | 6 => fun _ v _ => v = .int .i64 0
      | 7 => fun _ => filledV (w.heap.size + 1 + 1) #[.int .i64 (trK r), .int .i64 (trN r), .string ⟨#[]⟩]
      | 8 => fun _ v _ => v = .int .i64 0
      | _ => fun _ _ _ => True) (fun
      | _ => undef) (by kernel_rfl) (by kernel_rfl) (by kernel_rfl) ?_ ?_ ?_
  · simp (maxSteps := 20000000) only [permL, permOp, List.filterMap_cons, List.filterMap_nil, List.getElem?_cons_succ, List.getElem?_cons_zero, Option.map_some, Option.map_none, List.take_succ_cons, List.take_zero, ParAllG, Act.put, List.setIfInBounds_toArray, List.set_cons_succ, List.set_cons_zero]
    refine ⟨?_, ?_, ?_, ?_, ?_, ?_, ?_, ?_, ?_, trivial⟩
    · intro vals W hx hd
      have hW := HF.out W hx
      simp [PDepsG, pdeps, Region.binds, List.idxOf_cons] at hd
      first
        | refine ParObG.plain rfl ?_
        | refine ParObG.wanted (by simp [Region.wanted, yielded, hd]) ?_
      go_simp
      exact ParPostG.same (leW (· = w.heap.size + 1 + 1) #[.int .i64 (trK r), .int .i64 (trN r), .string ⟨#[]⟩]) fun _ _ => rfl
    · intro vals W hx hd
      have hW := HF.out W hx
      simp [PDepsG, pdeps, Region.binds, List.idxOf_cons] at hd
      first
        | refine ParObG.plain rfl ?_
        | refine ParObG.wanted (by simp [Region.wanted, yielded, hd]) ?_
      go_simp
      exact ParPostG.same (leW (· = w.heap.size + 1 + 1) #[.int .i64 (trK r), .int .i64 (trN r), .string ⟨#[]⟩]) fun _ _ => rfl
    · intro vals W hx hd
      have hW := HF.out W hx
      simp [PDepsG, pdeps, Region.binds, List.idxOf_cons] at hd
      first
        | refine ParObG.plain rfl ?_
        | refine ParObG.wanted (by simp [Region.wanted, yielded, hd]) ?_
      go_simp
      exact ParPostG.same (leW (· = w.heap.size + 1 + 1) #[.int .i64 (trK r), .int .i64 (trN r), .string ⟨#[]⟩]) fun _ _ => rfl
    · intro vals W hx hd
      have hW := HF.out W hx
      simp [PDepsG, pdeps, Region.binds, List.idxOf_cons] at hd
      first
        | refine ParObG.plain rfl ?_
        | refine ParObG.wanted (by simp [Region.wanted, yielded, hd]) ?_
      go_simp
      refine (KA.out W).mono ?_
      rintro e w9 ⟨rfl, hb9⟩
      exact ⟨_, rfl, LeW.ofExt hb9, fun _ _ => rfl⟩
    · intro vals W hx hd
      have hW := HF.out W hx
      simp [PDepsG, pdeps, Region.binds, List.idxOf_cons] at hd
      first
        | refine ParObG.plain rfl ?_
        | refine ParObG.wanted (by simp [Region.wanted, yielded, hd]) ?_
      go_simp
      refine (KU.out W).mono ?_
      rintro e w9 ⟨rfl, hb9⟩
      exact ⟨_, rfl, LeW.ofExt hb9, fun _ _ => rfl⟩
    · intro vals W hx hd
      have hW := HF.out W hx
      simp [PDepsG, pdeps, Region.binds, List.idxOf_cons] at hd
      first
        | refine ParObG.plain rfl ?_
        | refine ParObG.wanted (by simp [Region.wanted, yielded, hd]) ?_
      go_simp
      exact ParPostG.same (leW (· = w.heap.size + 1 + 1) #[.int .i64 (trK r), .int .i64 (trN r), .string ⟨#[]⟩]) fun _ _ => rfl
    · intro vals W hx hd
      have hW := HF.out W hx
      simp [PDepsG, pdeps, Region.binds, List.idxOf_cons] at hd
      first
        | refine ParObG.plain rfl ?_
        | refine ParObG.wanted (by simp [Region.wanted, yielded, hd]) ?_
      go_simp
      exact ParPostG.same (leW (· = w.heap.size + 1 + 1) #[.int .i64 (trK r), .int .i64 (trN r), .string ⟨#[]⟩]) fun _ _ => rfl
    · intro vals W hx hd
      have hW := HF.out W hx
      simp [PDepsG, pdeps, Region.binds, List.idxOf_cons] at hd
      first
        | refine ParObG.plain rfl ?_
        | refine ParObG.wanted (by simp [Region.wanted, yielded, hd]) ?_
      obtain ⟨cs, hcs1, hcs2⟩ := hx.row _ _ HR3.out rfl
      refine yields_storeV (cs := #[.int .i64 (trK r), .int .i64 (trN r), .string ⟨#[]⟩]) rfl (by simp [Act.eval]) (by simp [Act.eval, hd]) hcs1 hcs2 rfl (by simp [Value.oneCell']) ?_
      exact ⟨LeW.setRow hcs1 rfl rfl, fun w3 h3 => h3.keep _ (setRow_heap _ _ cs _ _ _ hcs1)⟩
    · intro vals W hx hd
      have hW := HF.out W hx
      simp [PDepsG, pdeps, Region.binds, List.idxOf_cons] at hd
      first
        | refine ParObG.plain rfl ?_
        | refine ParObG.wanted (by simp [Region.wanted, yielded, hd]) ?_
      go_simp
      exact ParPostG.same (leW (· = w.heap.size + 1 + 1) #[.int .i64 (trK r), .int .i64 (trN r), .string ⟨#[]⟩]) fun _ _ => rfl
  · simp (maxSteps := 20000000) only [permL, permOp, List.filterMap_cons, List.filterMap_nil, List.getElem?_cons_succ, List.getElem?_cons_zero, Option.map_some, Option.map_none, List.drop_succ_cons, List.drop_zero, List.take_succ_cons, List.take_zero, Nat.reduceSub, ZAll, ParEnd, Act.put, List.setIfInBounds_toArray, List.set_cons_succ, List.set_cons_zero]
  intro vals W hx hf hz
  simp (maxSteps := 20000000) only [permL, permOp, List.filterMap_cons, List.filterMap_nil, List.getElem?_cons_succ, List.getElem?_cons_zero, Option.map_some, Option.map_none, ParFactsG, List.take_succ_cons, List.take_zero, and_true, Nat.reduceAdd] at hf
  obtain ⟨f0, f1, f2, f3, f4, f5, f6, f7, f8⟩ := hf
  clear hz
  simp (maxSteps := 20000000) only [permL, permOp, List.filterMap_cons, List.filterMap_nil, List.getElem?_cons_succ, List.getElem?_cons_zero, Option.map_some, Option.map_none, List.drop_succ_cons, List.drop_zero, List.take_succ_cons, List.take_zero, Nat.reduceSub, ParEnd, ZTail, Act.put, List.setIfInBounds_toArray, List.set_cons_succ, List.set_cons_zero, Nat.reduceAdd, f0, f1, f2, f3, f4, f5, f6, f8]
  clear f0 f1 f2 f3 f4 f5 f6 f8
  have HX4 := Lib.hid (LeW.below HX3.out hx fun i hi => by omega)
  have HR4 := Lib.hid (show Blk W (w.heap.size + 1 + 1) #[.int .i64 (trK r), .int .i64 (trN r), .string ⟨#[]⟩] 23 from f7)
  clear hx HF f7
  go_simp
  repeat (first | go_values | go_skip | go_guarded | go_step | go_upon)
  refine bodyPost_ret (ret_vE2 rfl _ rfl rfl HR4.out) rfl ?_
  exact ⟨rfl, HX4.out⟩
end Go.Proofs.YtbdaebjpgdpcnaaGreatDoor
