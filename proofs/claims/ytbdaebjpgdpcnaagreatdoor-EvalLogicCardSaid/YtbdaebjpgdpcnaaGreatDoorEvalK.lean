/-
  The law's own makers of nodes (the closures of umlautlaw21.EvalLogic).
-/
import Derived.Test.YtbdaebjpgdpcnaaGreatDoorEvalH
namespace Go.Proofs.YtbdaebjpgdpcnaaGreatDoor
open Go.RowKit Go.Lib
set_option maxRecDepth 100000

theorem ret_nE {t : Tmp} {fn : Func} (h : fn.results = #[.cell t 38]) (tmps : Array Value) {w : World} {g : Nat} {cs : Array Value} (hc : cs.size = 6) (hp : tmps.getD t undef = .pointer (some ⟨g, 0, none⟩)) (hg : Blk w g cs 38) :
    (results fn tmps).run Tryz.prog w = .ok (.agg cs) w := by
  have hp' : tmps[t]?.getD undef = .pointer (some ⟨g, 0, none⟩) := by simpa using hp
  have hr := run_loadVar_row w g 38 38 cs (0, 0) _ hg Tryz.underlying38 rfl (by rw [hc]; kernel_rfl)
  simp [results, h, hp', asAddr, hr]
theorem blk6E {w : World} {g : Nat} {a b c d e f : Value} {t : TypeId} (h : Blk w g #[a, b, c, d, e, f] t) (a' b' c' d' e' f' : Value) : Blk ((((((w.setCell ⟨g, 0, none⟩ a').setCell ⟨g, 1, none⟩ b').setCell ⟨g, 2, none⟩ c').setCell ⟨g, 3, none⟩ d').setCell ⟨g, 4, none⟩ e').setCell ⟨g, 5, none⟩ f') g #[a', b', c', d', e', f'] t :=
  (((((h.set 0 a').set 1 b').set 2 c').set 3 d').set 4 e').set 5 f'
theorem below6E {w w0 : World} {g B : Nat} (h : Below B w0 w) (hg : B ≤ g) (a' b' c' d' e' f' : Value) : Below B w0 ((((((w.setCell ⟨g, 0, none⟩ a').setCell ⟨g, 1, none⟩ b').setCell ⟨g, 2, none⟩ c').setCell ⟨g, 3, none⟩ d').setCell ⟨g, 4, none⟩ e').setCell ⟨g, 5, none⟩ f') :=
  (((((h.setCell (p := ⟨g, 0, none⟩) hg a').setCell (p := ⟨g, 1, none⟩) hg b').setCell (p := ⟨g, 2, none⟩) hg c').setCell (p := ⟨g, 3, none⟩) hg d').setCell (p := ⟨g, 4, none⟩) hg e').setCell (p := ⟨g, 5, none⟩) hg f'
/-- A raw value as a number or NULL. -/
def rawO (k n : Int) (s : ByteArray) : Option Int := if k = 2 then (if vOk k n s then some n else none) else none
set_option maxHeartbeats 4000000 in
theorem elnode_any (k n : Int) (s : ByteArray) (w : World) :
    Calls Tryz.prog 17 #[vV k n s] w fun e w' => e = .returned (ndE (oK (rawO k n s)) 0 ⟨#[]⟩ ⟨#[]⟩ (oN (rawO k n s)) none 0 0) ∧ Below w.heap.size w w' := by
  have KO := Lib.hid (fun W => refok_any k n s W)
  have hr : rawO k n s = if k = 2 then (if vOk k n s then some n else none) else none := rfl
  generalize rawO k n s = X at hr ⊢
  generalize vOk k n s = ok at KO hr
  simp only [vV, ndE] at KO ⊢
  have HA0 := Lib.hid ((Blk.new w #[.int .i64 k, .int .i64 n, .string s] 23 rfl).alloc (.cells #[.int .i64 0, .int .i64 0, .string ⟨#[]⟩, .string ⟨#[]⟩, .int .i64 0, .slice none 0 0] 38))
  have HR0 := Lib.hid (Blk.new (w.alloc (.cells #[.int .i64 k, .int .i64 n, .string s] 23)) #[.int .i64 0, .int .i64 0, .string ⟨#[]⟩, .string ⟨#[]⟩, .int .i64 0, .slice none 0 0] 38 (n := w.heap.size + 1) (by simp))
  have HX0 := Lib.hid (show Below w.heap.size w ((w.alloc (.cells #[.int .i64 k, .int .i64 n, .string s] 23)).alloc (.cells #[.int .i64 0, .int .i64 0, .string ⟨#[]⟩, .string ⟨#[]⟩, .int .i64 0, .slice none 0 0] 38)) by go_grown)
  by_cases h2 : k = 2
  · have b2 : (k == 2) = true := by simpa using h2
    rw [if_pos h2] at hr
    clear h2
    cases ok
    · have hX : X = none := hr
      subst hX
      clear hr
      rw [show oK none = 0 from rfl, show oN none = 0 from rfl]
      go_enter Tryz.func17, Tryz.ntmps17
      go_wp2_with fail
      generalize ((w.alloc (.cells #[.int .i64 k, .int .i64 n, .string s] 23)).alloc (.cells #[.int .i64 0, .int .i64 0, .string ⟨#[]⟩, .string ⟨#[]⟩, .int .i64 0, .slice none 0 0] 38)) = W0 at HA0 HR0 HX0 ⊢
      refine Calls.mono (KO.out _) ?_
      rintro e W1 ⟨rfl, hb⟩
      have HA1 := Lib.hid (HA0.out.keep hb)
      have HR1 := Lib.hid (HR0.out.keep hb)
      have HX1 := Lib.hid (show Below w.heap.size w W1 from HX0.out.trans (hb.mono HX0.out.size))
      clear hb HA0 HR0 HX0
      obtain ⟨cA, fA⟩ := HA1.out.facts
      obtain ⟨cR, fR⟩ := HR1.out.facts
      have hAl := HA1.out.lt
      have hRl := HR1.out.lt
      go_simp
      repeat (first | go_values | go_skip | go_guarded | go_step | go_upon)
      refine bodyPost_ret (ret_nE rfl _ rfl rfl (blk6E HR1.out _ _ _ _ _ _)) rfl ?_
      exact ⟨rfl, below6E HX1.out (Nat.le_succ _) _ _ _ _ _ _⟩
    · have hX : X = some n := hr
      subst hX
      clear hr
      rw [show oK (some n) = 2 from rfl, show oN (some n) = n from rfl]
      go_enter Tryz.func17, Tryz.ntmps17
      go_wp2_with fail
      generalize ((w.alloc (.cells #[.int .i64 k, .int .i64 n, .string s] 23)).alloc (.cells #[.int .i64 0, .int .i64 0, .string ⟨#[]⟩, .string ⟨#[]⟩, .int .i64 0, .slice none 0 0] 38)) = W0 at HA0 HR0 HX0 ⊢
      refine Calls.mono (KO.out _) ?_
      rintro e W1 ⟨rfl, hb⟩
      have HA1 := Lib.hid (HA0.out.keep hb)
      have HR1 := Lib.hid (HR0.out.keep hb)
      have HX1 := Lib.hid (show Below w.heap.size w W1 from HX0.out.trans (hb.mono HX0.out.size))
      clear hb HA0 HR0 HX0
      obtain ⟨cA, fA⟩ := HA1.out.facts
      obtain ⟨cR, fR⟩ := HR1.out.facts
      have hAl := HA1.out.lt
      have hRl := HR1.out.lt
      go_simp
      repeat (first | go_values | go_skip | go_guarded | go_step | go_upon)
      refine bodyPost_ret (ret_nE rfl _ rfl rfl (blk6E HR1.out _ _ _ _ _ _)) rfl ?_
      exact ⟨rfl, below6E HX1.out (Nat.le_succ _) _ _ _ _ _ _⟩
  · have b2 : (k == 2) = false := by simpa using h2
    rw [if_neg h2] at hr
    subst hr
    clear h2
    rw [show oK none = 0 from rfl, show oN none = 0 from rfl]
    obtain ⟨cR, fR⟩ := HR0.out.facts
    have hRl := HR0.out.lt
    go_enter Tryz.func17, Tryz.ntmps17
    repeat (first | go_values | go_skip | go_guarded | go_step | go_upon)
    refine bodyPost_ret (ret_nE rfl _ rfl rfl HR0.out) rfl ?_
    exact ⟨rfl, HX0.out⟩
theorem ndAt_two {w : World} {g : Nat} {x y : N6} (h : Blk w g #[.int .i64 x.k, .int .i64 x.o, .string x.s, .string x.t, .int .i64 x.n, .slice x.la x.ln x.lc, .int .i64 y.k, .int .i64 y.o, .string y.s, .string y.t, .int .i64 y.n, .slice y.la y.ln y.lc] 38) : NdAt w g [x, y] :=
  ⟨h.lt, fun i z hz => by
    have hi : i = 0 ∨ i = 1 := by have := (List.getElem?_eq_some_iff.1 hz).1; simp at this; omega
    rcases hi with rfl | rfl
    · obtain rfl : x = z := by simpa using hz
      exact ⟨h.cell 0, h.cell 1, h.cell 2, h.cell 3, h.cell 4, h.cell 5⟩
    · obtain rfl : y = z := by simpa using hz
      exact ⟨h.cell 6, h.cell 7, h.cell 8, h.cell 9, h.cell 10, h.cell 11⟩⟩
set_option maxHeartbeats 4000000 in
theorem elop_any (o : Int) (x y : N6) (w : World) :
    Calls Tryz.prog 19 #[.int .i64 o, x.v, y.v] w fun e w' => (∃ g, e = .returned (ndE 6 o ⟨#[]⟩ ⟨#[]⟩ 0 (some ⟨g, 0, none⟩) 2 2) ∧ NdAt w' g [x, y]) ∧ Below w.heap.size w w' := by
  obtain ⟨xk, xo, xs, xt, xn, xla, xln, xlc⟩ := x
  obtain ⟨yk, yo, ys, yt, yn, yla, yln, ylc⟩ := y
  simp only [N6.v, ndE]
  go_enter Tryz.func19, Tryz.ntmps19
  repeat (first | go_values | go_skip | go_guarded | go_step | go_upon)
  have hR := (Blk.new ((w.alloc (.cells #[.int .i64 xk, .int .i64 xo, .string xs, .string xt, .int .i64 xn, .slice xla xln xlc] 38)).alloc (.cells #[.int .i64 yk, .int .i64 yo, .string ys, .string yt, .int .i64 yn, .slice yla yln ylc] 38)) #[.int .i64 6, .int .i64 o, .string ⟨#[]⟩, .string ⟨#[]⟩, .int .i64 0, .slice (some ⟨w.heap.size + 1 + 1 + 1, 0, none⟩) 2 2] 38 (n := w.heap.size + 1 + 1) (by simp)).alloc (.cells #[.int .i64 xk, .int .i64 xo, .string xs, .string xt, .int .i64 xn, .slice xla xln xlc, .int .i64 yk, .int .i64 yo, .string ys, .string yt, .int .i64 yn, .slice yla yln ylc] 38)
  have hL := Blk.new (((w.alloc (.cells #[.int .i64 xk, .int .i64 xo, .string xs, .string xt, .int .i64 xn, .slice xla xln xlc] 38)).alloc (.cells #[.int .i64 yk, .int .i64 yo, .string ys, .string yt, .int .i64 yn, .slice yla yln ylc] 38)).alloc (.cells #[.int .i64 6, .int .i64 o, .string ⟨#[]⟩, .string ⟨#[]⟩, .int .i64 0, .slice (some ⟨w.heap.size + 1 + 1 + 1, 0, none⟩) 2 2] 38)) #[.int .i64 xk, .int .i64 xo, .string xs, .string xt, .int .i64 xn, .slice xla xln xlc, .int .i64 yk, .int .i64 yo, .string ys, .string yt, .int .i64 yn, .slice yla yln ylc] 38 (n := w.heap.size + 1 + 1 + 1) (by simp)
  refine bodyPost_ret (ret_nE rfl _ rfl rfl hR) rfl ?_
  exact ⟨⟨_, rfl, ndAt_two (x := ⟨xk, xo, xs, xt, xn, xla, xln, xlc⟩) (y := ⟨yk, yo, ys, yt, yn, yla, yln, ylc⟩) hL⟩, by go_grown⟩
end Go.Proofs.YtbdaebjpgdpcnaaGreatDoor
