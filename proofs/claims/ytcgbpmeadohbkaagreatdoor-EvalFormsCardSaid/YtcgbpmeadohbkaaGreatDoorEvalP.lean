import Derived.Test.YtcgbpmeadohbkaaGreatDoorEvalD
import Derived.Test.YtcgbpmeadohbkaaGreatDoorOwn
namespace Go.Proofs.YtcgbpmeadohbkaaGreatDoor
open Go.RowKit Go.Lib
set_option maxRecDepth 100000
structure N6 where
 k : Int
 o : Int
 s : ByteArray
 t : ByteArray
 n : Int
 la : Option Addr
 ln : Nat
 lc : Nat
def N6.v (x : N6) : Value := ndE x.k x.o x.s x.t x.n x.la x.ln x.lc
def NdAt (w : World) (g : Nat) (L : List N6) : Prop := g < w.heap.size ∧ ∀ (i : Nat) (x : N6), L[i]? = some x →
 w.cell? ⟨g, i * 6, none⟩ = some (.int .i64 x.k) ∧ w.cell? ⟨g, i * 6 + 1, none⟩ = some (.int .i64 x.o) ∧ w.cell? ⟨g, i * 6 + 2, none⟩ = some (.string x.s) ∧ w.cell? ⟨g, i * 6 + 3, none⟩ = some (.string x.t) ∧ w.cell? ⟨g, i * 6 + 4, none⟩ = some (.int .i64 x.n) ∧ w.cell? ⟨g, i * 6 + 5, none⟩ = some (.slice x.la x.ln x.lc)
theorem NdAt.ext {w w' : World} {g : Nat} {L : List N6} (h : NdAt w g L) (hx : Ext w w') : NdAt w' g L :=
 ⟨Nat.lt_of_lt_of_le h.1 hx.size, fun i x hi => by
  obtain ⟨a, b, c, d, e, f⟩ := h.2 i x hi
  exact ⟨(hx.cell (p := ⟨g, _, none⟩) h.1).trans a, (hx.cell (p := ⟨g, _, none⟩) h.1).trans b, (hx.cell (p := ⟨g, _, none⟩) h.1).trans c, (hx.cell (p := ⟨g, _, none⟩) h.1).trans d, (hx.cell (p := ⟨g, _, none⟩) h.1).trans e, (hx.cell (p := ⟨g, _, none⟩) h.1).trans f⟩⟩
def Ev (w : World) (ev : Value) (x : N6) (v : Int × Int × ByteArray) (er : Int) : Prop :=
 ∀ W, Ext w W → Calls Tryz.prog 30 #[x.v, ev] W fun e w' => e = .returned (.tuple #[vV v.1 v.2.1 v.2.2, .int .i64 er]) ∧ Below W.heap.size W w'
theorem Ev.ext {w w' : World} {ev : Value} {x : N6} {v : Int × Int × ByteArray} {er : Int} (h : Ev w ev x v er) (hx : Ext w w') : Ev w' ev x v er := fun W hW => h W (Ext.trans hx hW)
def cells3 (v : Int × Int × ByteArray) : List Value := [.int .i64 v.1, .int .i64 v.2.1, .string v.2.2]
def flat3 (V : List (Int × Int × ByteArray)) : List Value := V.flatMap cells3
theorem infoValE : (Tryz.prog.info? 69).map (fun i => (i.zero, i.size, i.bytes)) = some (some (.agg #[.int .i64 0, .int .i64 0, .string ⟨#[]⟩]), 3, 32) := by kernel_rfl
theorem ext_ownE {W0 W W' X : World} {o : Obj} {e : TypeId} {size n : Nat} {v : Value} {xs : List Value} (hx : Ext W0 W) (hr : X.ownsRow W0.heap.size e size v n xs) (hg : (W.alloc o).grownBy W' v.ownBlock) : Ext W0 W' :=
 show Below W0.heap.size W0 W' from ((show Below W0.heap.size W0 W from hx).alloc hx.size o).grown hg (by have := hx.size; simp; omega) (fun k hk => by
  rcases hr.2 with ⟨e, _⟩ | ⟨g', _, _, e, hB, _⟩
  ·rw [e] at hk; simp [Value.ownBlock] at hk
  ·rw [e] at hk; simp [Value.ownBlock] at hk; omega)
def VsAt (B : Nat) (w : World) (u : Value) (V : List (Int × Int × ByteArray)) : Prop := ∃ g c, u = .slice (some ⟨g, 0, none⟩) V.length c ∧ B ≤ g ∧ g < w.heap.size ∧ ∀ (i : Nat) (v : Int × Int × ByteArray), V[i]? = some v →
 w.cell? ⟨g, i * 3, none⟩ = some (.int .i64 v.1) ∧ w.cell? ⟨g, i * 3 + 1, none⟩ = some (.int .i64 v.2.1) ∧ w.cell? ⟨g, i * 3 + 2, none⟩ = some (.string v.2.2)
theorem flat3_get : ∀ (V : List (Int × Int × ByteArray)) (i : Nat) (v : Int × Int × ByteArray), V[i]? = some v → ∀ j, j < 3 → (flat3 V)[i * 3 + j]? = (cells3 v)[j]?
 | y :: V, 0, v, h, j, hj => by
  obtain rfl : y = v := by simpa using h
  rw [Nat.zero_mul, Nat.zero_add]
  simp only [flat3, List.flatMap_cons]
  rw [List.getElem?_append_left (by simp [cells3]; omega)]
 | y :: V, i + 1, v, h, j, hj => by
  have ih := flat3_get V i v (by simpa using h) j hj
  simp only [flat3, List.flatMap_cons] at ih ⊢
  rw [List.getElem?_append_right (by simp [cells3]; omega), ← ih]
  congr 1
  simp [cells3]; omega
theorem vsAt_own {w : World} {B B0 : Nat} {u : Value} {V : List (Int × Int × ByteArray)} (h : w.ownsRow B 69 3 u V.length (flat3 V)) (h0 : V ≠ []) (hB : B0 ≤ B) : VsAt B0 w u V := by
 obtain ⟨_, ho⟩ := h
 rcases ho with ⟨_, h1⟩ | ⟨g, cap, cur, rfl, hge, hb, hn, _, hs, ht⟩
 ·exact absurd (List.eq_nil_of_length_eq_zero h1) h0
 ·refine ⟨g, cap, rfl, Nat.le_trans hB hge, lt_of_block hb, fun i v hi => ?_⟩
  have hil := (List.getElem?_eq_some_iff.1 hi).1
  have hc : ∀ j, j < 3 → w.cell? ⟨g, i * 3 + j, none⟩ = (cells3 v)[j]? := fun j hj => by
   rw [cell_of_row w g _ cur _ (0, 0) hb, ← flat3_get V i v hi j hj, ← ht, List.getElem?_take, if_pos (by omega), Array.getElem?_toList]
  exact ⟨hc 0 (by omega), hc 1 (by omega), hc 2 (by omega)⟩
set_option maxHeartbeats 8000000 in
theorem operands_any (k o : Int) (s t : ByteArray) (n : Int) (g lc : Nat) (L : List N6) (V : List (Int × Int × ByteArray)) (least most : Nat) (ra : Option Addr) (rn rc : Nat) (aa : Option Addr) (an ac : Nat) (q : Option Addr) (by_ : Int) (w : World)
 (hN : NdAt w g L) (hV : V.length = L.length) (hE : ∀ (i : Nat) (x : N6) (v : Int × Int × ByteArray), L[i]? = some x → V[i]? = some v → Ev w (evV ra rn rc aa an ac q by_) x v 0) (h0 : 0 < L.length) (hl : least ≤ L.length) (hm : L.length ≤ most) (hs : L.length ≤ 100) :
 Calls Tryz.prog 174 #[evV ra rn rc aa an ac q by_, ndE k o s t n (some ⟨g, 0, none⟩) L.length lc, .int .i64 least, .int .i64 most] w fun e w' => (∃ u, e = .returned (.tuple #[u, .int .i64 0]) ∧ VsAt w.heap.size w' u V) ∧ Below w.heap.size w w' := by
 have HN := Lib.hid hN
 have HE := Lib.hid hE
 have HV := Lib.hid hV
 clear hN hE hV
 simp only [evV, ndE] at HE ⊢
 obtain ⟨zl, hzl⟩ : ∃ z : Int, z = (least : Int) := ⟨_, rfl⟩
 obtain ⟨zm, hzm⟩ : ∃ z : Int, z = (most : Int) := ⟨_, rfl⟩
 have hl2 : ¬ (L.length : Int) < zl := by omega
 have hm2 : ¬ zm < (L.length : Int) := by omega
 rw [← hzl, ← hzm]
 clear hl hm hzl hzm
 have HA0 := Lib.hid ((Blk.new w #[.slice ra rn rc, .slice aa an ac, .pointer q, .int .i64 by_] 74 rfl).alloc (.cells #[.int .i64 k, .int .i64 o, .string s, .string t, .int .i64 n, .slice (some ⟨g, 0, none⟩) L.length lc] 24))
 have HX0 := Lib.hid (show Below w.heap.size w ((w.alloc (.cells #[.slice ra rn rc, .slice aa an ac, .pointer q, .int .i64 by_] 74)).alloc (.cells #[.int .i64 k, .int .i64 o, .string s, .string t, .int .i64 n, .slice (some ⟨g, 0, none⟩) L.length lc] 24)) by go_grown)
 go_enter Tryz.func174, Tryz.ntmps174
 go_wp2_with fail
 generalize ((w.alloc (.cells #[.slice ra rn rc, .slice aa an ac, .pointer q, .int .i64 by_] 74)).alloc (.cells #[.int .i64 k, .int .i64 o, .string s, .string t, .int .i64 n, .slice (some ⟨g, 0, none⟩) L.length lc] 24)) = W0 at HA0 HX0 ⊢
 go_loopw [10, 12, 13, 14, 30] (fun out _ _ _ i wr => ∃ j : Nat, j ≤ L.length ∧ i = .int .i64 j ∧ wr.ownsRow W0.heap.size 69 3 out j (flat3 (V.take j)) ∧ Ext W0 wr) (fun _ _ _ _ i _ => L.length - (intOf i).toNat)
 case atStart => exact ⟨0, Nat.zero_le _, rfl, World.ownsRow_nil _ _ _ _, Ext.refl _⟩
 case round =>
  obtain ⟨j, hj, rfl, hown, hx⟩ := hrel
  have HOw := Lib.hid hown
  have HX := Lib.hid hx
  clear hown hx
  by_cases hlt : j < L.length
  ·have hltI : (j : Int) < (L.length : Int) := by omega
   obtain ⟨x, hxe⟩ : ∃ x, L[j]? = some x := ⟨_, List.getElem?_eq_getElem hlt⟩
   obtain ⟨v, hve⟩ : ∃ v, V[j]? = some v := ⟨_, List.getElem?_eq_getElem (by rw [HV.out]; exact hlt)⟩
   have HW := Lib.hid (Ext.trans (show Ext w W0 from HX0.out) HX.out)
   obtain ⟨c0, c1, c2, c3, c4, c5⟩ := (HN.out.ext HW.out).2 j x hxe
   have HEj := Lib.hid (HE.out j x v hxe hve)
   have HSn := Lib.hid (show flat3 (V.take (j + 1)) = flat3 (V.take j) ++ cells3 v by
    rw [List.take_add_one, hve]
    simp [flat3])
   obtain ⟨xk, xo, xs, xt, xn, xla, xln, xlc⟩ := x
   simp only [N6.v, ndE, Ev, vV] at c0 c1 c2 c3 c4 c5 HEj
   obtain ⟨vk, vn, vs⟩ := v
   simp only at HEj HSn
   have hA := HA0.out.keep HX.out
   obtain ⟨ca, fa⟩ := hA.facts
   have hal := hA.lt
   clear hxe hve hA
   go_wp2_with fail
   have hx1 : Ext wr (wr.alloc (.cells #[.int .i64 xk, .int .i64 xo, .string xs, .string xt, .int .i64 xn, .slice xla xln xlc] 24)) := (Ext.refl wr).alloc _
   refine Calls.mono (HEj.out _ (Ext.trans HW.out hx1)) ?_
   rintro e w3 ⟨rfl, hb3⟩
   have hx3 : Ext wr w3 := Ext.trans hx1 hb3
   have HX3 := Lib.hid (Ext.trans HX.out hx3)
   have HO3 := Lib.hid (ownsRow_ext HOw.out hx3)
   clear hx1 hb3 hx3 ca fa hal c0 c1 c2 c3 c4 c5 HW HEj
   obtain ⟨ao, cap0, ho, hcap0⟩ := ownsRow_slice HO3.out
   subst ho
   go_wp2_with (at_builtin; refine wpList_push rfl _ _ 72 rfl W0.heap.size 69 (.agg #[.int .i64 0, .int .i64 0, .string ⟨#[]⟩]) 3 32 Tryz.underlying72 infoValE rfl (by decide) (.slice ao j cap0) j (flat3 (V.take j)) rfl ((HO3.out.alloc _).alloc _) _ 69 #[.int .i64 vk, .int .i64 vn, .string vs] rfl (Blk.new _ _ _ (by simp)) rfl (by simp [Value.oneCell']) (by unfold maxLen; omega) (by omega) (by have := HX3.out.size; simp <;> omega) ?_; intro v5 w5 hown5 hgr5 hat; have HX5 := Lib.hid (ext_ownE (Ext.trans HX3.out ((Ext.refl w3).alloc (.cells #[.int .i64 vk, .int .i64 vn, .string vs] 69))) HO3.out hgr5); have HO5 := Lib.hid hown5; clear hown5 hgr5 hat)
   refine ⟨⟨j + 1, by omega, by go_num, ?_, HX5.out⟩, by simp [intOf]; omega⟩
   rw [HSn.out]
   exact HO5.out
  ·obtain rfl : j = L.length := by omega
   have hltI : ¬ (L.length : Int) < (L.length : Int) := by omega
   go_wp2_with fail
   go_ret2
   have hown := HOw.out
   rw [← HV.out, List.take_length] at hown
   exact ⟨⟨_, rfl, vsAt_own hown (fun e => by rw [← HV.out, e] at h0; simp at h0) HX0.out.size⟩, Ext.trans HX0.out HX.out⟩
end Go.Proofs.YtcgbpmeadohbkaaGreatDoor
namespace Go.Proofs.YtcgbpmeadohbkaaGreatDoor
open Go.RowKit Go.Lib
set_option maxRecDepth 100000
end Go.Proofs.YtcgbpmeadohbkaaGreatDoor
namespace Go.Proofs.YtcgbpmeadohbkaaGreatDoor
open Go.RowKit Go.Lib
set_option maxRecDepth 100000
theorem cell_same {w w' : World} {g : Nat} (h : w'.heap[g]? = w.heap[g]?) (o : Nat) : w'.cell? ⟨g, o, none⟩ = w.cell? ⟨g, o, none⟩ := by simp [World.cell?, h]
def tr3 (t : Nat) : Int × Int × ByteArray := (trK t, trN t, emp)
def o3 (x : Option Int) : Int × Int × ByteArray := (oK x, oN x, emp)
end Go.Proofs.YtcgbpmeadohbkaaGreatDoor
namespace Go.Proofs.YtcgbpmeadohbkaaGreatDoor
open Go.RowKit Go.Lib
set_option maxRecDepth 100000
set_option maxHeartbeats 2000000 in
theorem fits_err (k n : Int) (s : ByteArray) (w : World) : Calls Tryz.prog 175 #[vV k n s, .int .i64 18] w fun e w' => e = .returned (.tuple #[vV 0 0 emp, .int .i64 18]) ∧ Below w.heap.size w w' := by
 have KN := Lib.hid (fun W => valnull_any W)
 simp only [vV, emp] at KN ⊢
 have HR0 := Lib.hid (Blk.new (w.alloc (.cells #[.int .i64 k, .int .i64 n, .string s] 69)) #[.int .i64 0, .int .i64 0, .string ⟨#[]⟩] 69 (n := w.heap.size + 1) (by simp))
 have HX0 := Lib.hid (show Below w.heap.size w ((w.alloc (.cells #[.int .i64 k, .int .i64 n, .string s] 69)).alloc (.cells #[.int .i64 0, .int .i64 0, .string ⟨#[]⟩] 69)) by go_grown)
 go_enter Tryz.func175, Tryz.ntmps175
 go_wp2_with fail
 refine Calls.mono (KN.out _) ?_
 rintro e W1 ⟨rfl, hb⟩
 have HR1 := Lib.hid (HR0.out.keep hb)
 have HX1 := Lib.hid (show Below w.heap.size w W1 from HX0.out.trans (hb.mono HX0.out.size))
 clear hb
 obtain ⟨cR, fR⟩ := HR1.out.facts
 have hRl := HR1.out.lt
 go_simp
 repeat (first | go_values | go_skip | go_guarded | go_step | go_upon)
 refine bodyPost_ret (ret_vE2 rfl _ rfl rfl (blk3 HR1.out _ _ _)) rfl ?_
 exact ⟨rfl, below3 HX1.out (Nat.le_succ _) _ _ _⟩
set_option maxHeartbeats 8000000 in
theorem operands_err (k o : Int) (s t : ByteArray) (n : Int) (g lc : Nat) (x y : N6) (ra : Option Addr) (rn rc : Nat) (aa : Option Addr) (an ac : Nat) (q : Option Addr) (by_ : Int) (w : World)
 (hN : NdAt w g [x, y]) (hE : Ev w (evV ra rn rc aa an ac q by_) x (0, 0, emp) 18) :
 Calls Tryz.prog 174 #[evV ra rn rc aa an ac q by_, ndE k o s t n (some ⟨g, 0, none⟩) 2 lc, .int .i64 2, .int .i64 2] w fun e w' => e = .returned (.tuple #[.slice none 0 0, .int .i64 18]) ∧ Below w.heap.size w w' := by
 obtain ⟨xk, xo, xs, xt, xn, xla, xln, xlc⟩ := x
 have HN := Lib.hid hN
 have HE := Lib.hid hE
 clear hN hE
 simp only [evV, ndE, Ev, N6.v, vV, emp] at HE ⊢
 have HA0 := Lib.hid ((Blk.new w #[.slice ra rn rc, .slice aa an ac, .pointer q, .int .i64 by_] 74 rfl).alloc (.cells #[.int .i64 k, .int .i64 o, .string s, .string t, .int .i64 n, .slice (some ⟨g, 0, none⟩) 2 lc] 24))
 have HX0 := Lib.hid (show Below w.heap.size w ((w.alloc (.cells #[.slice ra rn rc, .slice aa an ac, .pointer q, .int .i64 by_] 74)).alloc (.cells #[.int .i64 k, .int .i64 o, .string s, .string t, .int .i64 n, .slice (some ⟨g, 0, none⟩) 2 lc] 24)) by go_grown)
 go_enter Tryz.func174, Tryz.ntmps174
 go_wp2_with fail
 generalize ((w.alloc (.cells #[.slice ra rn rc, .slice aa an ac, .pointer q, .int .i64 by_] 74)).alloc (.cells #[.int .i64 k, .int .i64 o, .string s, .string t, .int .i64 n, .slice (some ⟨g, 0, none⟩) 2 lc] 24)) = W0 at HA0 HX0 ⊢
 obtain ⟨q0, q1, q2, q3, q4, q5⟩ := (HN.out.ext (show Ext w W0 from HX0.out)).2 0 _ rfl
 have n0 : W0.cell? ⟨g, 0, none⟩ = some (.int .i64 xk) := q0
 have n1 : W0.cell? ⟨g, 1, none⟩ = some (.int .i64 xo) := q1
 have n2 : W0.cell? ⟨g, 2, none⟩ = some (.string xs) := q2
 have n3 : W0.cell? ⟨g, 3, none⟩ = some (.string xt) := q3
 have n4 : W0.cell? ⟨g, 4, none⟩ = some (.int .i64 xn) := q4
 have n5 : W0.cell? ⟨g, 5, none⟩ = some (.slice xla xln xlc) := q5
 clear q0 q1 q2 q3 q4 q5
 obtain ⟨ca, fa⟩ := HA0.out.facts
 have hal := HA0.out.lt
 refine wp_loop_rounds 1 ?_
 rw [rounds_succ]
 go_simp
 repeat (first | go_values | go_skip | go_guarded | go_step | go_upon)
 have hx1 : Ext W0 (W0.alloc (.cells #[.int .i64 xk, .int .i64 xo, .string xs, .string xt, .int .i64 xn, .slice xla xln xlc] 24)) := (Ext.refl _).alloc _
 refine Calls.mono (HE.out _ (Ext.trans (show Ext w W0 from HX0.out) hx1)) ?_
 rintro e W1 ⟨rfl, hb⟩
 have HX1 := Lib.hid (show Below w.heap.size w W1 from Ext.trans HX0.out (Ext.trans hx1 hb))
 clear hx1 hb ca fa hal n0 n1 n2 n3 n4 n5
 go_simp
 repeat (first | go_values | go_skip | go_guarded | go_step | go_upon)
 go_ret2
 exact ⟨rfl, HX1.out.alloc HX1.out.size _⟩
set_option maxHeartbeats 8000000 in
theorem binary_err (oo : Int) (b18 : (oo == 18) = false) (b19 : (oo == 19) = false) (s u : ByteArray) (n : Int) (g lc : Nat) (x y : N6) (ra : Option Addr) (rn rc : Nat) (aa : Option Addr) (an ac : Nat) (q : Option Addr) (by_ : Int) (w : World)
 (hN : NdAt w g [x, y]) (hE : Ev w (evV ra rn rc aa an ac q by_) x (0, 0, emp) 18) :
 Calls Tryz.prog 105 #[evV ra rn rc aa an ac q by_, ndE 6 oo s u n (some ⟨g, 0, none⟩) 2 lc] w fun e w' => e = .returned (.tuple #[vV 0 0 emp, .int .i64 18]) ∧ Below w.heap.size w w' := by
 have KO := Lib.hid (fun W (hW : Ext w W) => operands_err 6 oo s u n g lc x y ra rn rc aa an ac q by_ W (hN.ext hW) (hE.ext hW))
 have KN := Lib.hid (fun W => valnull_any W)
 simp only [evV, ndE, vV, emp] at KO KN ⊢
 clear hN hE
 obtain ⟨kk, hkk⟩ : ∃ z : Int, z = 6 := ⟨_, rfl⟩
 obtain ⟨ll, hll⟩ : ∃ z : Nat, z = 2 := ⟨_, rfl⟩
 have HE0 := Lib.hid (((Blk.new w #[.slice ra rn rc, .slice aa an ac, .pointer q, .int .i64 by_] 74 rfl).alloc (.cells #[.int .i64 kk, .int .i64 oo, .string s, .string u, .int .i64 n, .slice (some ⟨g, 0, none⟩) ll lc] 24)).alloc (.cells #[.int .i64 0, .int .i64 0, .string ⟨#[]⟩] 69))
 have HN0 := Lib.hid ((Blk.new (w.alloc (.cells #[.slice ra rn rc, .slice aa an ac, .pointer q, .int .i64 by_] 74)) #[.int .i64 kk, .int .i64 oo, .string s, .string u, .int .i64 n, .slice (some ⟨g, 0, none⟩) ll lc] 24 (n := w.heap.size + 1) (by simp)).alloc (.cells #[.int .i64 0, .int .i64 0, .string ⟨#[]⟩] 69))
 have HR0 := Lib.hid (Blk.new ((w.alloc (.cells #[.slice ra rn rc, .slice aa an ac, .pointer q, .int .i64 by_] 74)).alloc (.cells #[.int .i64 kk, .int .i64 oo, .string s, .string u, .int .i64 n, .slice (some ⟨g, 0, none⟩) ll lc] 24)) #[.int .i64 0, .int .i64 0, .string ⟨#[]⟩] 69 (n := w.heap.size + 1 + 1) (by simp))
 have HX0 := Lib.hid (show Below w.heap.size w (((w.alloc (.cells #[.slice ra rn rc, .slice aa an ac, .pointer q, .int .i64 by_] 74)).alloc (.cells #[.int .i64 kk, .int .i64 oo, .string s, .string u, .int .i64 n, .slice (some ⟨g, 0, none⟩) ll lc] 24)).alloc (.cells #[.int .i64 0, .int .i64 0, .string ⟨#[]⟩] 69)) by go_grown)
 subst hkk hll
 go_enter Tryz.func105, Tryz.ntmps105
 go_wp2_with fail
 refine Calls.mono (KO.out _ HX0.out) ?_
 rintro e W1 ⟨rfl, hb⟩
 have HR1 := Lib.hid (HR0.out.keep hb)
 have HX1 := Lib.hid (show Below w.heap.size w W1 from HX0.out.trans (hb.mono HX0.out.size))
 clear hb
 go_simp
 repeat (first | go_values | go_skip | go_guarded | go_step | go_upon)
 refine Calls.mono (KN.out _) ?_
 rintro e W2 ⟨rfl, hb⟩
 have HR2 := Lib.hid (HR1.out.keep hb)
 have HX2 := Lib.hid (show Below w.heap.size w W2 from HX1.out.trans (hb.mono HX1.out.size))
 clear hb
 obtain ⟨cR, fR⟩ := HR2.out.facts
 have hRl := HR2.out.lt
 go_simp
 repeat (first | go_values | go_skip | go_guarded | go_step | go_upon)
 refine bodyPost_ret (ret_vE2 rfl _ rfl rfl (blk3 HR2.out _ _ _)) rfl ?_
 exact ⟨rfl, below3 HX2.out (by omega) _ _ _⟩
end Go.Proofs.YtcgbpmeadohbkaaGreatDoor
namespace Go.Proofs.YtcgbpmeadohbkaaGreatDoor
open Go.RowKit Go.Lib
set_option maxRecDepth 100000
set_option maxHeartbeats 2000000 in
theorem alone_div (s u : ByteArray) (n : Int) (g lc : Nat) (w : World) : Calls Tryz.prog 31 #[ndE 6 10 s u n (some ⟨g, 0, none⟩) 2 lc] w fun e w' => e = .returned (.bool false) ∧ Below w.heap.size w w' := by
 simp only [ndE]
 go_enter Tryz.func31, Tryz.ntmps31
 go_wp2_with fail
 go_returns
 exact ⟨rfl, by go_grown⟩
set_option maxHeartbeats 2000000 in
theorem alone_num (o : Int) (s u : ByteArray) (n : Int) (w : World) : Calls Tryz.prog 31 #[ndE 2 o s u n none 0 0] w fun e w' => e = .returned (.bool true) ∧ Below w.heap.size w w' := by
 simp only [ndE]
 go_enter Tryz.func31, Tryz.ntmps31
 go_wp2_with fail
 go_returns
 exact ⟨rfl, by go_grown⟩
end Go.Proofs.YtcgbpmeadohbkaaGreatDoor
