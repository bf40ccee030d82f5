/-
  What every statement of the layer holds against itself (umlautlaw20.awake).
-/
import Derived.Test.YtaoikbpolckobaaGreatDoorBindH
import Derived.Test.YtaoikbpolckobaaGreatDoorBindI
import Derived.Test.YtaoikbpolckobaaGreatDoorReg
namespace Go.Proofs.YtaoikbpolckobaaGreatDoor
open Go.RowKit
set_option maxRecDepth 100000

/-- A column's name alone, as a node. -/
def ndCol (s t : ByteArray) : NdR := ⟨4, 0, s, t, 0, none, 0, 0⟩
def ndTxt (s : ByteArray) : NdR := ⟨3, 0, s, ⟨#[]⟩, 0, none, 0, 0⟩
def tyTxt (s : ByteArray) : TyR := ⟨3, 0, s, ⟨#[]⟩, 0, none, 0, 0, 3, 0, binS⟩
theorem bnds_txt (w : World) (b : Nat) (s : ByteArray) : Bnds w b (ndTxt s).v (tyTxt s) := by
  intro W _
  refine (node_any b 3 0 s ⟨#[]⟩ 0 none 0 0 [] [] ⟨#[]⟩ 0 W (.inl rfl) (fun h => by cases h) (fun h => by cases h) (.inl ⟨rfl, rfl⟩) (by simp) rfl (fun j d x h => by simp at h) (fun h => by cases h)).mono ?_
  rintro e w' ⟨⟨lp, ll, lc, rfl, _⟩, hb⟩
  exact ⟨⟨lp, ll, lc, rfl⟩, hb⟩
/-- A column's name is bound in the world of a binder over the seven. -/
theorem bnds_col {w : World} {b g c q : Nat} (hB : Blk w b #[.slice (some ⟨g, 0, none⟩) 7 c, .pointer (some ⟨q, 0, none⟩), .nilFunc] 136) (hF : FldsAt w g fds) (s t : ByteArray) (x : TyR)
    (hx : colV 4 0 s t none 0 0 fds = .tuple #[tyV x.k x.o x.s x.t x.n (.slice none 0 0) x.ty x.r x.c, .int .i64 0]) : Bnds w b (ndCol s t).v x := by
  intro W hW
  refine (nodecol_any b g c q 0 s t 0 none 0 0 fds W (by decide) (hB.keep hW) (hF.ext hW)).mono ?_
  rintro e w' ⟨rfl, hb⟩
  exact ⟨⟨none, 0, 0, by rw [hx]⟩, hb⟩
theorem NodesAt.ofBlk {W : World} {g : Nat} {cs : Array Value} {t : TypeId} (h : Blk W g cs t) (ds : List NdR) (hc : cs.toList = ds.flatMap fun d => d.cells.toList) : NodesAt W (.slice (some ⟨g, 0, none⟩) ds.length ds.length) ds := by
  refine .inr ⟨g, ds.length, rfl, Nat.le_refl _, h.lt, fun j x hj i hi => ?_⟩
  have := flat_get (fun d : NdR => d.cells.toList) 6 (fun _ => rfl) ds j x hj i hi
  rw [h.cell, ← Array.getElem?_toList, hc, this, Array.getElem?_toList]
theorem NsAt.first {w : World} {lp : Option Addr} {ll : Nat} {n : Int} {ns : List Int} (h : NsAt w lp ll (n :: ns)) : ll = ns.length + 1 ∧ ∃ g cur, lp = some ⟨g, 0, none⟩ ∧ Blk w g cur 31 ∧ cur[4]? = some (.int .i64 n) := by
  obtain ⟨h1, h | ⟨g, cur, h2, h3, h4⟩⟩ := h
  · cases h
  · exact ⟨by simpa using h1, g, cur, h2, h3, by simpa using h4 0 n rfl⟩
def tyC : TyR := ⟨4, 0, ⟨#[99]⟩, ⟨#[]⟩, 2, none, 0, 0, 3, 1, noC⟩
theorem colC : colV 4 0 ⟨#[99]⟩ ⟨#[]⟩ none 0 0 fds = .tuple #[tyV 4 0 ⟨#[99]⟩ ⟨#[]⟩ 2 (.slice none 0 0) 3 1 noC, .int .i64 0] := by kernel_rfl
theorem colA : colV 4 0 ⟨#[97]⟩ ⟨#[]⟩ none 0 0 fds = tyErr 11 := by kernel_rfl
theorem testAw (lp : Option Addr) (ll lc : Nat) : nodeV 6 1 ⟨#[]⟩ ⟨#[]⟩ 0 lp ll lc [tyC, tyTxt ⟨#[120]⟩] ⟨#[]⟩ 0 = .tuple #[.agg #[.int .i64 6, .int .i64 1, .string ⟨#[110, 111, 99, 97, 115, 101]⟩, .string ⟨#[]⟩, .int .i64 0, .slice lp ll lc, .int .i64 1, .int .i64 0, .string ⟨#[]⟩], .int .i64 0] := by kernel_rfl
/-- An expression of one column's name. -/
theorem exprcol_any (g c q : Nat) (s t : ByteArray) (w : World) (hF : FldsAt w g fds) :
    Calls Tryz.prog 18 #[.agg #[.slice (some ⟨g, 0, none⟩) 7 c], .pointer (some ⟨q, 0, none⟩), ndV 4 0 s t 0 (.slice none 0 0)] w fun e w' => e = .returned (colV 4 0 s t none 0 0 fds) ∧ Below w.heap.size w w' := by
  refine (expr_any g c 7 q 4 0 s t 0 none 0 0 (fun _ _ _ => colV 4 0 s t none 0 0 fds) [] w (fun _ _ _ => Form9.col ..) fun W b hW hB => ?_).mono ?_
  · refine (nodecol_any b g c q 0 s t 0 none 0 0 fds W (by decide) hB (hF.ext hW)).mono ?_
    rintro e w' ⟨rfl, hb⟩
    exact ⟨⟨none, 0, 0, rfl, rfl, .inl rfl⟩, hb⟩
  · rintro e w' ⟨⟨_, _, _, rfl, _⟩, hb⟩
    exact ⟨rfl, hb⟩
/-- An expression of two operands held against each other. -/
theorem exprtest_any (g c q : Nat) (o : Int) (lp0 : Option Addr) (ll0 lc0 : Nat) (ds : List NdR) (xs : List TyR) (w : World) (ho : 1 ≤ o ∧ o ≤ 6) (hne : xs ≠ []) (hlen : ds.length ≤ 1000) (hx : xs.length = ds.length) (hv : NodesAt w (.slice lp0 ll0 lc0) ds)
    (hB : ∀ W b, Ext w W → Blk W b #[.slice (some ⟨g, 0, none⟩) 7 c, .pointer (some ⟨q, 0, none⟩), .nilFunc] 136 → ∀ (j : Nat) (d : NdR) (x : TyR), ds[j]? = some d → xs[j]? = some x → Bnds W b d.v x) :
    Calls Tryz.prog 18 #[.agg #[.slice (some ⟨g, 0, none⟩) 7 c], .pointer (some ⟨q, 0, none⟩), ndV 6 o ⟨#[]⟩ ⟨#[]⟩ 0 (.slice lp0 ll0 lc0)] w fun e w' => (∃ lp ll lc, e = .returned (nodeV 6 o ⟨#[]⟩ ⟨#[]⟩ 0 lp ll lc xs ⟨#[]⟩ 0) ∧ NsAt w' lp ll (xs.map (·.n))) ∧ Below w.heap.size w w' :=
  expr_any g c 7 q 6 o ⟨#[]⟩ ⟨#[]⟩ 0 lp0 ll0 lc0 (fun lp ll lc => nodeV 6 o ⟨#[]⟩ ⟨#[]⟩ 0 lp ll lc xs ⟨#[]⟩ 0) (xs.map (·.n)) w (fun _ _ _ => Form9.node ..) fun W b hW hb =>
    node_any b 6 o ⟨#[]⟩ ⟨#[]⟩ 0 lp0 ll0 lc0 ds xs ⟨#[]⟩ 0 W (.inr (.inl rfl)) (fun _ => ho) (fun _ => hne) (hv.ext hW) hlen hx (hB W b hW hb) (fun h => by cases h)
set_option maxHeartbeats 8000000 in
theorem awake_any (w : World) : Calls Tryz.prog 19 #[] w fun e w' => e = .returned (.bool true) ∧ Below w.heap.size w w' := by
  go_enter Tryz.func19, Tryz.ntmps19
  repeat (first | go_values | go_skip | go_guarded | go_step | go_upon)
  refine (Y.fields_any _).mono ?_
  rintro e w1 ⟨⟨g, c, v2, rfl, hf⟩, hb1⟩
  have HF1 := Lib.hid hf
  have HX1 := Lib.hid hb1
  clear hf hb1
  go_simp
  repeat (first | go_values | go_skip | go_guarded | go_step | go_upon)
  refine (regnew_any _).mono ?_
  rintro e w2 ⟨q, rfl, hq, _, hb2⟩
  have HX2 : Hid (Below w.heap.size w w2) := Lib.hid (HX1.out.trans (hb2.mono HX1.out.size))
  have HF2 := Lib.hid (HF1.out.ext hb2)
  clear hb2
  go_simp
  repeat (first | go_values | go_skip | go_guarded | go_step | go_upon)
  have hN : NodesAt ((w2.alloc (.cells #[.int .i64 4, .int .i64 0, .string ⟨#[99]⟩, .string ⟨#[]⟩, .int .i64 0, .slice none 0 0, .int .i64 3, .int .i64 0, .string ⟨#[120]⟩, .string ⟨#[]⟩, .int .i64 0, .slice none 0 0] 31)).alloc (.cells #[.int .i64 6, .int .i64 1, .string ⟨#[]⟩, .string ⟨#[]⟩, .int .i64 0, .slice (some ⟨w2.heap.size, 0, none⟩) 2 2] 31)) (.slice (some ⟨w2.heap.size, 0, none⟩) 2 2) [ndCol ⟨#[99]⟩ ⟨#[]⟩, ndTxt ⟨#[120]⟩] := NodesAt.ofBlk ((Blk.new w2 #[.int .i64 4, .int .i64 0, .string ⟨#[99]⟩, .string ⟨#[]⟩, .int .i64 0, .slice none 0 0, .int .i64 3, .int .i64 0, .string ⟨#[120]⟩, .string ⟨#[]⟩, .int .i64 0, .slice none 0 0] 31 rfl).alloc _) [ndCol ⟨#[99]⟩ ⟨#[]⟩, ndTxt ⟨#[120]⟩] rfl
  have hx3 : Ext w2 ((w2.alloc (.cells #[.int .i64 4, .int .i64 0, .string ⟨#[99]⟩, .string ⟨#[]⟩, .int .i64 0, .slice none 0 0, .int .i64 3, .int .i64 0, .string ⟨#[120]⟩, .string ⟨#[]⟩, .int .i64 0, .slice none 0 0] 31)).alloc (.cells #[.int .i64 6, .int .i64 1, .string ⟨#[]⟩, .string ⟨#[]⟩, .int .i64 0, .slice (some ⟨w2.heap.size, 0, none⟩) 2 2] 31)) := ((Ext.refl _).alloc _).alloc _
  generalize ((w2.alloc (.cells #[.int .i64 4, .int .i64 0, .string ⟨#[99]⟩, .string ⟨#[]⟩, .int .i64 0, .slice none 0 0, .int .i64 3, .int .i64 0, .string ⟨#[120]⟩, .string ⟨#[]⟩, .int .i64 0, .slice none 0 0] 31)).alloc (.cells #[.int .i64 6, .int .i64 1, .string ⟨#[]⟩, .string ⟨#[]⟩, .int .i64 0, .slice (some ⟨w2.heap.size, 0, none⟩) 2 2] 31)) = W3 at hN hx3 ⊢
  have HF3 := Lib.hid (HF2.out.ext hx3)
  have HX3 : Hid (Below w.heap.size w W3) := Lib.hid (HX2.out.trans (hx3.mono HX2.out.size))
  refine (exprtest_any g c q 1 (some ⟨w2.heap.size, 0, none⟩) 2 2 [ndCol ⟨#[99]⟩ ⟨#[]⟩, ndTxt ⟨#[120]⟩] [tyC, tyTxt ⟨#[120]⟩] W3 (by decide) (by simp) (by decide) rfl hN (fun W b hW hb j d x hd hx => ?_)).mono ?_
  · match j with
    | 0 =>
      simp at hd hx
      subst hd hx
      exact bnds_col hb (HF3.out.ext hW) ⟨#[99]⟩ ⟨#[]⟩ tyC colC
    | 1 =>
      simp at hd hx
      subst hd hx
      exact bnds_txt W b ⟨#[120]⟩
    | j + 2 => simp at hd
  rintro e w4 ⟨⟨lp, ll, lc, rfl, hns⟩, hb4⟩
  obtain ⟨rfl, g3, cur, rfl, hg3, hc3⟩ := hns.first
  have HG3 := Lib.hid hg3
  have HX4 : Hid (Below w.heap.size w w4) := Lib.hid (HX3.out.trans (hb4.mono HX3.out.size))
  have HF4 := Lib.hid (HF3.out.ext hb4)
  clear hns hg3 hb4 hN hx3
  rw [testAw]
  go_simp
  repeat (first | go_values | go_skip | go_guarded | go_step | go_upon)
  have hT5 : Blk (w4.alloc (.cells #[.int .i64 6, .int .i64 1, .string ⟨#[110, 111, 99, 97, 115, 101]⟩, .string ⟨#[]⟩, .int .i64 0, .slice (some ⟨g3, 0, none⟩) 2 lc, .int .i64 1, .int .i64 0, .string ⟨#[]⟩] 36)) w4.heap.size #[.int .i64 6, .int .i64 1, .string ⟨#[110, 111, 99, 97, 115, 101]⟩, .string ⟨#[]⟩, .int .i64 0, .slice (some ⟨g3, 0, none⟩) 2 lc, .int .i64 1, .int .i64 0, .string ⟨#[]⟩] 36 := Blk.new w4 _ _ rfl
  have hx5 : Ext w4 (w4.alloc (.cells #[.int .i64 6, .int .i64 1, .string ⟨#[110, 111, 99, 97, 115, 101]⟩, .string ⟨#[]⟩, .int .i64 0, .slice (some ⟨g3, 0, none⟩) 2 lc, .int .i64 1, .int .i64 0, .string ⟨#[]⟩] 36)) := (Ext.refl _).alloc _
  generalize (w4.alloc (.cells #[.int .i64 6, .int .i64 1, .string ⟨#[110, 111, 99, 97, 115, 101]⟩, .string ⟨#[]⟩, .int .i64 0, .slice (some ⟨g3, 0, none⟩) 2 lc, .int .i64 1, .int .i64 0, .string ⟨#[]⟩] 36)) = W5 at hT5 hx5 ⊢
  refine (exprcol_any g c q ⟨#[97]⟩ ⟨#[]⟩ W5 (HF4.out.ext hx5)).mono ?_
  rintro e w6 ⟨rfl, hb6⟩
  have hT6 := hT5.keep hb6
  have hG6 := (HG3.out.keep hx5).keep hb6
  have HX6 : Hid (Below w.heap.size w w6) := Lib.hid (HX4.out.trans ((Below.trans hx5 (hb6.mono hx5.size)).mono HX4.out.size))
  have hl6 := hT6.lt
  have hl7 := hG6.lt
  obtain ⟨ct, ft⟩ := hT6.facts
  have cg := hG6.cell 4
  rw [hc3] at cg
  clear hT5 hx5 hb6 hT6 hG6 hc3
  rw [colA, show tyErr 11 = .tuple #[.agg #[.int .i64 0, .int .i64 0, .string ⟨#[]⟩, .string ⟨#[]⟩, .int .i64 0, .slice none 0 0, .int .i64 0, .int .i64 0, .string ⟨#[]⟩], .int .i64 11] from rfl]
  go_simp
  repeat (first | go_values | go_skip | go_guarded | go_step | go_upon)
  go_ret
  exact ⟨rfl, HX6.out.alloc HX6.out.size _⟩
end Go.Proofs.YtaoikbpolckobaaGreatDoor
