/-
  Trees that are shown: a node's text (parse.Show).
-/
import Derived.Test.YtlhkmdchjklaeaaGreatDoorShowD
namespace Go.Proofs.YtlhkmdchjklaeaaGreatDoor
open Go.RowKit Go.Lib
set_option maxRecDepth 100000

theorem join_nd {B : Nat} (g cap : Nat) (out : Ws) (w : World) (_ : out ≠ []) (ho : w.ownsRow B 9 1 (.slice (some ⟨g, 0, none⟩) out.length cap) out.length (out.map strV)) (hlen : out.length ≤ 100000) (hS : (Lib.join out [32]).length ≤ 4000) :
    Calls Tryz.prog 22 #[.slice (some ⟨g, 0, none⟩) out.length cap, .string ⟨#[32]⟩] w fun e w' => e = .returned (.string ⟨(Lib.join out [32]).toArray⟩) ∧ Below w.heap.size w w' := by
  have hm : (out.map fun x => (⟨x.toArray⟩ : ByteArray)).map (·.data.toList) = out := by rw [List.map_map]; exact (List.map_congr_left fun x _ => by simp).trans (List.map_id _)
  have hj := Tryz.strings_Join g 0 cap (out.map fun x => (⟨x.toArray⟩ : ByteArray)) ⟨#[32]⟩ w (fun j x hx => by
    have hx2 : (out.map strV)[j]? = some (.string x) := by
      rw [List.getElem?_map] at hx ⊢
      cases h : out[j]? with
      | none => rw [h] at hx; cases hx
      | some y => rw [h] at hx; simp at hx; subst hx; rfl
    have := ho.cells (g := g) rfl j _ hx2
    rw [Addr.add_lit] at this
    exact this) (by
    rcases ho.2 with ⟨h, _⟩ | ⟨g2, cap2, cur, h, _, hb, _⟩
    · cases h
    · simp at h
      obtain ⟨rfl, _⟩ := h
      exact (Array.getElem?_eq_some_iff.1 hb).1) (by rw [List.length_map]; omega) (by
    obtain ⟨ao, c2, h, hc⟩ := ownsRow_slice ho
    simp at h
    rw [List.length_map]; omega) (by rw [hm]; exact Nat.le_trans hS (by omega))
  rw [hm, List.length_map] at hj
  exact hj
set_option maxHeartbeats 16000000 in
theorem show_any (t : Tr) (x : PN) (d F : Nat) (out : Ws) (T : List Lx.Tok) (A : Nat → Prop) (w : World) (hD : trD d t = true) (hW : trW d t = true) (hd : d ≤ 4000) (hc : cntL (d + 1) [t] ≤ 4000)
    (hn : nodeW (bareW d) t 1 = some out) (h0 : out ≠ []) (hlen : out.length ≤ 100000) (hS : (Lib.join out [32]).length ≤ 4000) (hl : Lx.lex (Lib.join out [32]) = .ok T) (hT0 : T ≠ []) (hT : T.length ≤ 4000)
    (hf : exprF T (Lib.join out [32]).length F = some (t, 0, 0)) (hTr : TrAt A w x t) (hA : ∀ g, A g → g < w.heap.size) (hG : GlobL w) :
    Calls Tryz.prog 7 #[x.v] w fun e w' => e = .returned (.tuple #[.string ⟨(Lib.join out [32]).toArray⟩, .int .i64 0]) ∧ Below w.heap.size w w' := by
  have hx0 : Ext w ((w.alloc (.cells x.cells 25)).alloc (.cells #[.int .i64 4000] 3)) := ((Ext.refl w).alloc _).alloc _
  have HX0 := Lib.hid hx0
  have HB0 := Lib.hid (show Blk ((w.alloc (.cells x.cells 25)).alloc (.cells #[.int .i64 4000] 3)) w.heap.size x.cells 25 from (Blk.new w _ _ rfl).alloc _)
  have HQ0 := Lib.hid (show Blk ((w.alloc (.cells x.cells 25)).alloc (.cells #[.int .i64 4000] 3)) (w.heap.size + 1) #[.int .i64 4000] 3 from Blk.new _ _ _ (by simp))
  have HT0 := Lib.hid (hTr.ext hx0)
  have HA := Lib.hid hA
  have HG := Lib.hid hG
  have KD := Lib.hid (fun W (hW2 : TrAt A W x t) => deep_any d t x A W 4000 hD hW hW2 (by omega) (by omega))
  have KS := Lib.hid (fun (y : PN) (B : Nat → Prop) W (h1 : TrAt A W x t) (h2 : TrAt B W y t) => same_true d t x y A B W hD hW h1 h2)
  have KGr := Lib.hid (fun la A q W (hK : KidsAt A W la 1 1 [t]) hq hA2 => great_any d [t] la 1 1 A q 4000 W (by simpa using hD) ⟨by simp, by simpa using hW⟩ hK hq (by exact_mod_cast hc) (by omega) hA2)
  have KN := Lib.hid (fun B q W a b c e => node_nd B q _ (bare_nd B q d) t x 1 [] out A W hn a b c (by simpa using hlen) e)
  have KJ := Lib.hid (fun B g cap W ho => join_nd (B := B) g cap out W h0 ho hlen hS)
  have hbs : bsl ⟨(Lib.join out [32]).toArray⟩ = Lib.join out [32] := bsl_mk _
  have hsz : (⟨(Lib.join out [32]).toArray⟩ : ByteArray).size = (Lib.join out [32]).length := by simp [ByteArray.size]
  have KE := Lib.hid (fun W hG => expr_any ⟨(Lib.join out [32]).toArray⟩ T F t 0 0 (by rw [hsz]; exact hf) (by rw [hbs]; exact hl) hT0 hT W hG (by rw [hsz]; exact hS))
  generalize Lib.join out [32] = S at KJ KE ⊢
  have H0 := Lib.hid h0
  clear hx0 hTr hA hG hD hW hd hc hn h0 hlen hS hl hT0 hT hf hbs hsz
  obtain ⟨xk, xo, xs, xt, xn, xla, xln, xlc⟩ := x
  simp only [PN.cells, PN.v] at *
  obtain ⟨cb, fb⟩ := HB0.out.facts
  have hbl := HB0.out.lt
  go_enter Tryz.func7, Tryz.ntmps7
  go_simp
  repeat (first | go_values | go_skip | go_guarded | go_step | go_upon)
  generalize (w.alloc (.cells #[.int .i64 xk, .int .i64 xo, .string xs, .string xt, .int .i64 xn, .slice xla xln xlc] 25)).alloc (.cells #[.int .i64 4000] 3) = W0 at HX0 HB0 HQ0 HT0 cb fb hbl ⊢
  refine Calls.mono (KD.out W0 HT0.out) ?_
  rintro e W1 ⟨rfl, hx1⟩
  have HX1 := Lib.hid (Ext.trans HX0.out hx1)
  have HB1 := Lib.hid (HB0.out.keep hx1)
  have HQ1 := Lib.hid (HQ0.out.keep hx1)
  have HT1 := Lib.hid (HT0.out.ext hx1)
  clear hx1 HX0 HB0 HQ0 HT0 cb fb hbl KD
  obtain ⟨cb, fb⟩ := HB1.out.facts
  have hbl := HB1.out.lt
  have hql := HQ1.out.lt
  go_simp
  repeat (first | go_values | go_skip | go_guarded | go_step | go_upon)
  have hx2 : Ext W1 (W1.alloc (.cells #[.int .i64 xk, .int .i64 xo, .string xs, .string xt, .int .i64 xn, .slice xla xln xlc] 25)) := (Ext.refl W1).alloc _
  have HK2 := Lib.hid (show KidsAt (fun g => g ≠ w.heap.size + 1) (W1.alloc (.cells #[.int .i64 xk, .int .i64 xo, .string xs, .string xt, .int .i64 xn, .slice xla xln xlc] 25)) (some ⟨W1.heap.size, 0, none⟩) 1 1 [t] from .inr ⟨W1.heap.size, [⟨xk, xo, xs, xt, xn, xla, xln, xlc⟩], rfl, rfl, Nat.le_refl _, rfl, by omega, pnAt_of [⟨xk, xo, xs, xt, xn, xla, xln, xlc⟩] (Blk.new W1 _ 25 rfl), fun i y z hy hz => by
    have hi : i = 0 := by have := (List.getElem?_eq_some_iff.1 hy).1; simp at this; omega
    subst hi
    obtain rfl := Option.some.inj hy
    obtain rfl := Option.some.inj hz
    exact (HT1.out.ext hx2).mono fun g h _ => by have := HA.out g h; omega, by simp⟩)
  refine Calls.mono (KGr.out _ _ _ _ HK2.out (HQ1.out.keep hx2) (fun g h => h)) ?_
  rintro e W3 ⟨rfl, hq3, hl3⟩
  have HL3 := Lib.hid ((LeP.ofExt (p := w.heap.size + 1) (Ext.trans HX1.out hx2)).trans hl3)
  have HB3 := Lib.hid (hl3.blk (HB1.out.keep hx2) (by omega))
  have HT3 := Lib.hid ((HT1.out.ext hx2).later (p := w.heap.size + 1) (fun g h => by have := HA.out g h; omega) hl3)
  clear hq3 hl3 hx2 HK2 HX1 HB1 HQ1 HT1 cb fb hbl hql KGr
  obtain ⟨cb, fb⟩ := HB3.out.facts
  have hbl := HB3.out.lt
  go_simp
  repeat (first | go_values | go_skip | go_guarded | go_step | go_upon)
  have hw3 : w.heap.size + 1 ≤ W3.heap.size := by omega
  have hx4 : Ext W3 (W3.alloc (.cells #[.slice none 0 0] 47)) := (Ext.refl W3).alloc _
  have hx3 : Ext w W3 := ⟨HL3.out.os, HL3.out.tape, HL3.out.out, HL3.out.size, fun i hi => HL3.out.old i hi (by omega)⟩
  have HX4 := Lib.hid (Ext.trans hx3 hx4)
  have HB4 := Lib.hid (HB3.out.keep hx4)
  have HT4 := Lib.hid (HT3.out.ext hx4)
  have HP4 := Lib.hid (show PrAt (W3.alloc (.cells #[.slice none 0 0] 47)) (w.heap.size + 1) W3.heap.size [] from ⟨hw3, _, Blk.new W3 _ _ rfl, World.ownsRow_nil _ _ _ _⟩)
  have hBw4 : w.heap.size + 1 ≤ (W3.alloc (.cells #[.slice none 0 0] 47)).heap.size := by simp; omega
  clear hx4 hx3 HL3 HB3 HT3 cb fb hbl
  generalize W3.alloc (.cells #[.slice none 0 0] 47) = W4 at HX4 HB4 HT4 HP4 hBw4 ⊢
  generalize W3.heap.size = q at HP4 hw3 ⊢
  refine Calls.mono (KN.out (w.heap.size + 1) q W4 HP4.out HT4.out (fun g h => by have := HA.out g h; omega) hBw4) ?_
  rintro e W5 ⟨rfl, hp5, hl5⟩
  rw [List.nil_append] at hp5
  have hbel5 := LeR.below (w0 := W4) (B := w.heap.size + 1) ⟨rfl, rfl, rfl, Nat.le_refl _, fun _ _ => rfl⟩ hBw4 HP4.out hl5
  have HB5 := Lib.hid (show Blk W5 w.heap.size _ 25 from (hbel5.block _ (by omega)).trans HB4.out)
  have HT5 := Lib.hid (HP4.out.tree HT4.out (fun g h => by have := HA.out g h; omega) hl5)
  have HX5 := Lib.hid (show Ext w W5 from ⟨hl5.os.trans HX4.out.os, hl5.tape.trans HX4.out.tape, hl5.out.trans HX4.out.output, Nat.le_trans HX4.out.size hl5.size, fun i hi => (hbel5.block i (by omega)).trans (HX4.out.block i hi)⟩)
  obtain ⟨v, hq5, ho5⟩ := hp5.ex
  have HO5 := Lib.hid ho5
  have HQ5 := Lib.hid hq5
  clear hp5 hl5 hbel5 ho5 hq5 HX4 HB4 HT4 HP4 hBw4 KN
  rcases HO5.out.2 with ⟨rfl, h00⟩ | ⟨g5, cap, cur, rfl, _⟩
  · exact absurd (by simpa using h00) H0.out
  obtain ⟨cq, fq⟩ := HQ5.out.facts
  have hql := HQ5.out.lt
  go_simp
  repeat (first | go_values | go_skip | go_guarded | go_step | go_upon)
  refine Calls.mono (KJ.out _ g5 cap W5 HO5.out) ?_
  rintro e W6 ⟨rfl, hx6⟩
  have HX6 := Lib.hid (Ext.trans HX5.out hx6)
  have HB6 := Lib.hid (HB5.out.keep hx6)
  have HT6 := Lib.hid (HT5.out.ext hx6)
  clear hx6 HX5 HB5 HT5 HO5 HQ5 cq fq hql KJ
  go_simp
  repeat (first | go_values | go_skip | go_guarded | go_step | go_upon)
  refine Calls.mono (KE.out W6 (HG.out.keep HX6.out)) ?_
  rintro e W7 ⟨y, rfl, hty, hx7⟩
  have HX7 := Lib.hid (Ext.trans HX6.out hx7)
  have HB7 := Lib.hid (HB6.out.keep hx7)
  have HT7 := Lib.hid (HT6.out.ext hx7)
  have HY7 := Lib.hid hty
  clear hx7 hty HX6 HB6 HT6 KE
  obtain ⟨yk, yo, ys, yt, yn, yla, yln, ylc⟩ := y
  simp only [PN.v]
  obtain ⟨cb, fb⟩ := HB7.out.facts
  have hbl := HB7.out.lt
  have hx8 : Ext W7 (W7.alloc (.cells #[.int .i64 yk, .int .i64 yo, .string ys, .string yt, .int .i64 yn, .slice yla yln ylc] 25)) := (Ext.refl W7).alloc _
  have KS8 := Lib.hid (KS.out ⟨yk, yo, ys, yt, yn, yla, yln, ylc⟩ _ _ (HT7.out.ext hx8) (HY7.out.ext hx8))
  simp only at KS8
  go_simp
  repeat (first | go_values | go_skip | go_guarded | go_step | go_upon)
  refine Calls.mono KS8.out ?_
  rintro e W9 ⟨rfl, hx9⟩
  have HX9 := Lib.hid (Ext.trans (Ext.trans HX7.out hx8) hx9)
  clear hx8 hx9 HX7 HB7 HT7 HY7 cb fb hbl KS KS8
  go_simp
  repeat (first | go_values | go_skip | go_guarded | go_step | go_upon)
  go_returns
  exact ⟨rfl, HX9.out⟩
end Go.Proofs.YtlhkmdchjklaeaaGreatDoor
