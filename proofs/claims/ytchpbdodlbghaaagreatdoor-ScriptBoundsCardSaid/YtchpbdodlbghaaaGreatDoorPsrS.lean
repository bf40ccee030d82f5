import Derived.Test.YtchpbdodlbghaaaGreatDoorPsrJ
namespace Go.Proofs.YtchpbdodlbghaaaGreatDoor
open Go.RowKit Go.Lib
set_option maxRecDepth 100000

def unF (rec : Nat → PSt → Option (Tr × PSt)) (T : List Lx.Tok) (k : Nat) (o : Int) (s : PSt) : Option (Tr × PSt) :=
  if s.i < T.length then (rec k { s with i := s.i + 1 }).bind fun m => some (.mk 5 o [] [] 0 [m.1], m.2) else none
def notF (rec : Nat → PSt → Option (Tr × PSt)) (T : List Lx.Tok) (long k : Nat) (tk : Int) (x : List UInt8) (o : Int) (s : PSt) : Option (Tr × PSt) :=
  if isB T s tk x then withinF T long (unF rec T k o) s else rec (k + 1) s
set_option maxHeartbeats 8000000 in
theorem notclo_any (b2 b3 : Nat) (p g cap long : Nat) (T : List Lx.Tok) (rec : Nat → PSt → Option (Tr × PSt)) (hrec : LevOk p g cap long T rec) (k : Nat) (hk : k ≤ 12) (s : PSt) (r : Tr) (s' : PSt) (w : World) (hf : unF rec T k 21 s = some (r, s')) (h : PsAt w p g cap long T s)
    (h2 : Blk w b2 #[.pointer (some ⟨p, 0, none⟩)] 137) (h3 : Blk w b3 #[.int .i64 k] 3) :
    Calls Tryz.prog 456 #[.pointer (some ⟨b2, 0, none⟩), .pointer (some ⟨b3, 0, none⟩)] w (LevPost p g cap long T r s' w) := by
  have hpl : p < w.heap.size := h.blk.lt
  have hpw : p ≠ w.heap.size := by omega
  have hgw : g ≠ w.heap.size := by have := h.tok.1; omega
  have hwp : w.heap.size ≠ p := Ne.symm hpw
  unfold unF at hf
  by_cases hlt : s.i < T.length
  · rw [if_pos hlt] at hf
    cases hr1 : rec k { s with i := s.i + 1 } with
    | none => rw [hr1] at hf; cases hf
    | some m1 =>
      obtain ⟨m, s2⟩ := m1
      rw [hr1] at hf
      obtain ⟨rfl, rfl⟩ := Prod.mk.inj (Option.some.inj hf)
      clear hf
      obtain ⟨i, deep, at_, er⟩ := s
      simp only at hr1 hlt
      have hfew := h.few
      have hl0 : LeP p w ((w.setCell ⟨p, 1, none⟩ (.int .i64 ((i : Int) + 1))).alloc (.cells #[.int .i64 0, .int .i64 0, .string ⟨#[]⟩, .string ⟨#[]⟩, .int .i64 0, .slice none 0 0] 196)) := (LeP.set 1 _).trans (LeP.ofExt ((Ext.refl _).alloc _))
      have hp0 : PsAt ((w.setCell ⟨p, 1, none⟩ (.int .i64 ((i : Int) + 1))).alloc (.cells #[.int .i64 0, .int .i64 0, .string ⟨#[]⟩, .string ⟨#[]⟩, .int .i64 0, .slice none 0 0] 196)) p g cap long T ⟨i + 1, deep, at_, er⟩ := by
        refine PsAt.ext (w := w.setCell ⟨p, 1, none⟩ (.int .i64 ((i : Int) + 1))) (h.set (LeP.set 1 _) ?_ (by show i + 1 ≤ _; omega)) ((Ext.refl _).alloc _)
        exact h.blk.set 1 _
      have hr0 : Blk ((w.setCell ⟨p, 1, none⟩ (.int .i64 ((i : Int) + 1))).alloc (.cells #[.int .i64 0, .int .i64 0, .string ⟨#[]⟩, .string ⟨#[]⟩, .int .i64 0, .slice none 0 0] 196)) w.heap.size #[.int .i64 0, .int .i64 0, .string ⟨#[]⟩, .string ⟨#[]⟩, .int .i64 0, .slice none 0 0] 196 := Blk.new _ _ _ (by simp)
      have hlt0 : w.heap.size < (((w.setCell ⟨p, 1, none⟩ (.int .i64 ((i : Int) + 1))).alloc (.cells #[.int .i64 0, .int .i64 0, .string ⟨#[]⟩, .string ⟨#[]⟩, .int .i64 0, .slice none 0 0] 196))).heap.size := hr0.lt
      have KL := hrec k (k : Int) _ m s2 _ rfl hk hr1 hp0
      have hb := h.blk
      simp only [psC] at hb
      have HB := Lib.hid hb
      have hsum := IntWalk.i64_in ((i : Int) + 1) (by omega)
      obtain ⟨cb, fb⟩ := hb.facts
      obtain ⟨c2, f2⟩ := h2.facts
      obtain ⟨c3, f3⟩ := h3.facts
      have hbl := hb.lt
      have h2l := h2.lt
      have h3l := h3.lt
      have HH := Lib.hid (And.intro hl0 (And.intro hp0 (And.intro hr0 hlt0)))
      have HKL := Lib.hid KL
      clear hb h h2 h3 hr1 hrec hl0 hp0 hr0 hlt0 KL
      go_enter Tryz.func456, Tryz.ntmps456
      go_simp
      repeat (first | go_values | go_skip | go_guarded | go_step | go_upon)
      obtain ⟨hl0, hp0, hr0, hlt0⟩ := HH.out
      refine Calls.mono HKL.out ?_
      rintro e W2 ⟨x, rfl, ht2, hp2, hl2⟩
      have HR2 := Lib.hid (hl2.blk hr0 hwp)
      have HL2 := Lib.hid (hl0.trans hl2)
      have HT2 := Lib.hid (ht2.mono (B := fun g => w.heap.size < g) fun g h1 h2 => by omega)
      have HP2 := Lib.hid hp2
      clear ht2 hp2 hl2 hl0 hp0 hr0 hlt0 cb fb hbl c2 f2 c3 f3 h2l h3l HB HH HKL
      obtain ⟨xk, xo, xs, xt, xn, xla, xln, xlc⟩ := x
      simp only [PN.v]
      obtain ⟨cr, fr⟩ := HR2.out.facts
      have hrl := HR2.out.lt
      go_simp
      repeat (first | go_values | go_skip | go_guarded | go_step | go_upon)
      refine bodyPost_ret (ret_ndP rfl _ rfl rfl ((blk6P HR2.out _ _ _ _ _ _).alloc _)) rfl ?_
      refine ⟨⟨5, 21, ⟨#[]⟩, ⟨#[]⟩, 0, some ⟨W2.heap.size, 0, none⟩, 1, 1⟩, rfl, ?_, (HP2.out.other6 hpw hgw _ _ _ _ _ _).ext ((Ext.refl _).alloc _), (HL2.out.other6 (Nat.le_refl _) _ _ _ _ _ _).trans (LeP.ofExt ((Ext.refl _).alloc _))⟩
      have hT := ((HT2.out.set6 (b := w.heap.size) (fun g h => by omega) (.int .i64 5) (.int .i64 21) (.string ⟨#[]⟩) (.string ⟨#[]⟩) (.int .i64 0) (.slice (some ⟨W2.heap.size, 0, none⟩) 1 1)).later (p := p) (fun g h => by omega) (LeP.ofExt ((Ext.refl _).alloc (.cells #[.int .i64 xk, .int .i64 xo, .string xs, .string xt, .int .i64 xn, .slice xla xln xlc] 196)))).mono (B := (w.heap.size ≤ ·)) fun g h _ => Nat.le_of_lt h
      refine .node 5 21 [] [] 0 W2.heap.size 1 [⟨xk, xo, xs, xt, xn, xla, xln, xlc⟩] [m] rfl (by simp) (Nat.le_refl _) (Nat.le_of_lt hrl) (pnAt_of [⟨xk, xo, xs, xt, xn, xla, xln, xlc⟩] (t := 196) (Blk.new _ _ _ (by simp))) fun j y z hy hz => ?_
      have hj : j = 0 := by have := (List.getElem?_eq_some_iff.1 hy).1; simp at this; omega
      subst hj
      obtain rfl := Option.some.inj hy
      obtain rfl := Option.some.inj hz
      exact hT
  · rw [if_neg hlt] at hf; cases hf
set_option maxHeartbeats 8000000 in
theorem negclo_any (b2 b3 : Nat) (p g cap long : Nat) (T : List Lx.Tok) (rec : Nat → PSt → Option (Tr × PSt)) (hrec : LevOk p g cap long T rec) (k : Nat) (hk : k ≤ 12) (s : PSt) (r : Tr) (s' : PSt) (w : World) (hf : unF rec T k 20 s = some (r, s')) (h : PsAt w p g cap long T s)
    (h2 : Blk w b2 #[.pointer (some ⟨p, 0, none⟩)] 137) (h3 : Blk w b3 #[.int .i64 k] 3) :
    Calls Tryz.prog 458 #[.pointer (some ⟨b2, 0, none⟩), .pointer (some ⟨b3, 0, none⟩)] w (LevPost p g cap long T r s' w) := by
  have hpl : p < w.heap.size := h.blk.lt
  have hpw : p ≠ w.heap.size := by omega
  have hgw : g ≠ w.heap.size := by have := h.tok.1; omega
  have hwp : w.heap.size ≠ p := Ne.symm hpw
  unfold unF at hf
  by_cases hlt : s.i < T.length
  · rw [if_pos hlt] at hf
    cases hr1 : rec k { s with i := s.i + 1 } with
    | none => rw [hr1] at hf; cases hf
    | some m1 =>
      obtain ⟨m, s2⟩ := m1
      rw [hr1] at hf
      obtain ⟨rfl, rfl⟩ := Prod.mk.inj (Option.some.inj hf)
      clear hf
      obtain ⟨i, deep, at_, er⟩ := s
      simp only at hr1 hlt
      have hfew := h.few
      have hl0 : LeP p w ((w.setCell ⟨p, 1, none⟩ (.int .i64 ((i : Int) + 1))).alloc (.cells #[.int .i64 0, .int .i64 0, .string ⟨#[]⟩, .string ⟨#[]⟩, .int .i64 0, .slice none 0 0] 196)) := (LeP.set 1 _).trans (LeP.ofExt ((Ext.refl _).alloc _))
      have hp0 : PsAt ((w.setCell ⟨p, 1, none⟩ (.int .i64 ((i : Int) + 1))).alloc (.cells #[.int .i64 0, .int .i64 0, .string ⟨#[]⟩, .string ⟨#[]⟩, .int .i64 0, .slice none 0 0] 196)) p g cap long T ⟨i + 1, deep, at_, er⟩ := by
        refine PsAt.ext (w := w.setCell ⟨p, 1, none⟩ (.int .i64 ((i : Int) + 1))) (h.set (LeP.set 1 _) ?_ (by show i + 1 ≤ _; omega)) ((Ext.refl _).alloc _)
        exact h.blk.set 1 _
      have hr0 : Blk ((w.setCell ⟨p, 1, none⟩ (.int .i64 ((i : Int) + 1))).alloc (.cells #[.int .i64 0, .int .i64 0, .string ⟨#[]⟩, .string ⟨#[]⟩, .int .i64 0, .slice none 0 0] 196)) w.heap.size #[.int .i64 0, .int .i64 0, .string ⟨#[]⟩, .string ⟨#[]⟩, .int .i64 0, .slice none 0 0] 196 := Blk.new _ _ _ (by simp)
      have hlt0 : w.heap.size < (((w.setCell ⟨p, 1, none⟩ (.int .i64 ((i : Int) + 1))).alloc (.cells #[.int .i64 0, .int .i64 0, .string ⟨#[]⟩, .string ⟨#[]⟩, .int .i64 0, .slice none 0 0] 196))).heap.size := hr0.lt
      have KL := hrec k (k : Int) _ m s2 _ rfl hk hr1 hp0
      have hb := h.blk
      simp only [psC] at hb
      have HB := Lib.hid hb
      have hsum := IntWalk.i64_in ((i : Int) + 1) (by omega)
      obtain ⟨cb, fb⟩ := hb.facts
      obtain ⟨c2, f2⟩ := h2.facts
      obtain ⟨c3, f3⟩ := h3.facts
      have hbl := hb.lt
      have h2l := h2.lt
      have h3l := h3.lt
      have HH := Lib.hid (And.intro hl0 (And.intro hp0 (And.intro hr0 hlt0)))
      have HKL := Lib.hid KL
      clear hb h h2 h3 hr1 hrec hl0 hp0 hr0 hlt0 KL
      go_enter Tryz.func458, Tryz.ntmps458
      go_simp
      repeat (first | go_values | go_skip | go_guarded | go_step | go_upon)
      obtain ⟨hl0, hp0, hr0, hlt0⟩ := HH.out
      refine Calls.mono HKL.out ?_
      rintro e W2 ⟨x, rfl, ht2, hp2, hl2⟩
      have HR2 := Lib.hid (hl2.blk hr0 hwp)
      have HL2 := Lib.hid (hl0.trans hl2)
      have HT2 := Lib.hid (ht2.mono (B := fun g => w.heap.size < g) fun g h1 h2 => by omega)
      have HP2 := Lib.hid hp2
      clear ht2 hp2 hl2 hl0 hp0 hr0 hlt0 cb fb hbl c2 f2 c3 f3 h2l h3l HB HH HKL
      obtain ⟨xk, xo, xs, xt, xn, xla, xln, xlc⟩ := x
      simp only [PN.v]
      obtain ⟨cr, fr⟩ := HR2.out.facts
      have hrl := HR2.out.lt
      go_simp
      repeat (first | go_values | go_skip | go_guarded | go_step | go_upon)
      refine bodyPost_ret (ret_ndP rfl _ rfl rfl ((blk6P HR2.out _ _ _ _ _ _).alloc _)) rfl ?_
      refine ⟨⟨5, 20, ⟨#[]⟩, ⟨#[]⟩, 0, some ⟨W2.heap.size, 0, none⟩, 1, 1⟩, rfl, ?_, (HP2.out.other6 hpw hgw _ _ _ _ _ _).ext ((Ext.refl _).alloc _), (HL2.out.other6 (Nat.le_refl _) _ _ _ _ _ _).trans (LeP.ofExt ((Ext.refl _).alloc _))⟩
      have hT := ((HT2.out.set6 (b := w.heap.size) (fun g h => by omega) (.int .i64 5) (.int .i64 20) (.string ⟨#[]⟩) (.string ⟨#[]⟩) (.int .i64 0) (.slice (some ⟨W2.heap.size, 0, none⟩) 1 1)).later (p := p) (fun g h => by omega) (LeP.ofExt ((Ext.refl _).alloc (.cells #[.int .i64 xk, .int .i64 xo, .string xs, .string xt, .int .i64 xn, .slice xla xln xlc] 196)))).mono (B := (w.heap.size ≤ ·)) fun g h _ => Nat.le_of_lt h
      refine .node 5 20 [] [] 0 W2.heap.size 1 [⟨xk, xo, xs, xt, xn, xla, xln, xlc⟩] [m] rfl (by simp) (Nat.le_refl _) (Nat.le_of_lt hrl) (pnAt_of [⟨xk, xo, xs, xt, xn, xla, xln, xlc⟩] (t := 196) (Blk.new _ _ _ (by simp))) fun j y z hy hz => ?_
      have hj : j = 0 := by have := (List.getElem?_eq_some_iff.1 hy).1; simp at this; omega
      subst hj
      obtain rfl := Option.some.inj hy
      obtain rfl := Option.some.inj hz
      exact hT
  · rw [if_neg hlt] at hf; cases hf
set_option maxHeartbeats 8000000 in
theorem pnot_any (p g cap long : Nat) (T : List Lx.Tok) (rec : Nat → PSt → Option (Tr × PSt)) (hrec : LevOk p g cap long T rec) (k : Nat) (hk : k ≤ 11) (s : PSt) (r : Tr) (s' : PSt) (w : World) (hf : notF rec T long k 2 [78, 79, 84] 21 s = some (r, s')) (h : PsAt w p g cap long T s) :
    Calls Tryz.prog 365 #[.pointer (some ⟨p, 0, none⟩), .int .i64 k] w (LevPost p g cap long T r s' w) := by
  have hpl : p < w.heap.size := h.blk.lt
  have hgl : g < w.heap.size := h.tok.1
  have hpw : p ≠ w.heap.size + 1 + 1 := by omega
  have hgw : g ≠ w.heap.size + 1 + 1 := by omega
  have hwp : w.heap.size + 1 + 1 ≠ p := Ne.symm hpw
  have hx0 : Ext w (((w.alloc (.cells #[.pointer (some ⟨p, 0, none⟩)] 137)).alloc (.cells #[.int .i64 (k : Int)] 3)).alloc (.cells #[.int .i64 0, .int .i64 0, .string ⟨#[]⟩, .string ⟨#[]⟩, .int .i64 0, .slice none 0 0] 196)) := ((((Ext.refl w).alloc _).alloc _).alloc _)
  have HX0 := Lib.hid hx0
  have HP0 := Lib.hid (h.ext hx0)
  have HA0 := Lib.hid (show Blk (((w.alloc (.cells #[.pointer (some ⟨p, 0, none⟩)] 137)).alloc (.cells #[.int .i64 (k : Int)] 3)).alloc (.cells #[.int .i64 0, .int .i64 0, .string ⟨#[]⟩, .string ⟨#[]⟩, .int .i64 0, .slice none 0 0] 196)) w.heap.size #[.pointer (some ⟨p, 0, none⟩)] 137 from ((Blk.new w #[.pointer (some ⟨p, 0, none⟩)] 137 rfl).alloc _).alloc _)
  have HB0 := Lib.hid (show Blk (((w.alloc (.cells #[.pointer (some ⟨p, 0, none⟩)] 137)).alloc (.cells #[.int .i64 (k : Int)] 3)).alloc (.cells #[.int .i64 0, .int .i64 0, .string ⟨#[]⟩, .string ⟨#[]⟩, .int .i64 0, .slice none 0 0] 196)) (w.heap.size + 1) #[.int .i64 (k : Int)] 3 from (Blk.new (w.alloc (.cells #[.pointer (some ⟨p, 0, none⟩)] 137)) #[.int .i64 (k : Int)] 3 (n := w.heap.size + 1) (by simp)).alloc _)
  have HR0 := Lib.hid (show Blk (((w.alloc (.cells #[.pointer (some ⟨p, 0, none⟩)] 137)).alloc (.cells #[.int .i64 (k : Int)] 3)).alloc (.cells #[.int .i64 0, .int .i64 0, .string ⟨#[]⟩, .string ⟨#[]⟩, .int .i64 0, .slice none 0 0] 196)) (w.heap.size + 1 + 1) #[.int .i64 0, .int .i64 0, .string ⟨#[]⟩, .string ⟨#[]⟩, .int .i64 0, .slice none 0 0] 196 from Blk.new ((w.alloc (.cells #[.pointer (some ⟨p, 0, none⟩)] 137)).alloc (.cells #[.int .i64 (k : Int)] 3)) #[.int .i64 0, .int .i64 0, .string ⟨#[]⟩, .string ⟨#[]⟩, .int .i64 0, .slice none 0 0] 196 (n := w.heap.size + 1 + 1) (by simp))
  have KI := Lib.hid (fun W (hW : PsAt W p g cap long T s) => is_any p g cap long T s 2 ⟨#[78, 79, 84]⟩ W hW)
  have HRec := Lib.hid hrec
  have hk1 := IntWalk.i64_in ((k : Int) + 1) (by omega)
  have HFf := Lib.hid hf
  clear h hx0 hrec hf
  go_enter Tryz.func365, Tryz.ntmps365
  go_simp
  repeat (first | go_values | go_skip | go_guarded | go_step | go_upon)
  refine Calls.mono (KI.out _ HP0.out) ?_
  rintro e W1 ⟨rfl, hb1⟩
  have HP1 := Lib.hid (HP0.out.ext hb1)
  have HA1 := Lib.hid (HA0.out.keep hb1)
  have HB1 := Lib.hid (HB0.out.keep hb1)
  have HR1 := Lib.hid (HR0.out.keep hb1)
  have HX1 := Lib.hid (HX0.out.trans hb1)
  clear hb1 HP0 HA0 HB0 HR0 HX0
  have hw1 : w.heap.size + 1 + 1 < W1.heap.size := HR1.out.lt
  rw [show bsl ⟨#[78, 79, 84]⟩ = [78, 79, 84] from rfl]
  have hf := HFf.out
  unfold notF at hf
  obtain ⟨ca, fa⟩ := HA1.out.facts
  obtain ⟨cb, fb⟩ := HB1.out.facts
  have hal := HA1.out.lt
  have hbl := HB1.out.lt
  cases hq : isB T s 2 [78, 79, 84]
  · rw [hq, if_neg (by decide)] at hf
    have KL := Lib.hid (HRec.out (k + 1) ((k : Int) + 1) s r s' W1 (by omega) (by omega) hf HP1.out)
    clear hf hq HFf
    go_simp
    repeat (first | go_values | go_skip | go_guarded | go_step | go_upon)
    refine Calls.mono KL.out ?_
    rintro e W2 ⟨x, rfl, ht, hp2, hl2⟩
    have HR2 := Lib.hid (hl2.blk HR1.out hwp)
    have HL2 := Lib.hid ((LeP.ofExt HX1.out).trans hl2)
    have HT2 := Lib.hid (ht.mono (B := fun g => w.heap.size + 1 + 1 < g) fun g h1 h2 => by omega)
    have HP2 := Lib.hid hp2
    clear ht hp2 hl2 HP1 HR1 HX1 HA1 HB1 ca fa cb fb KL
    obtain ⟨xk, xo, xs, xt, xn, xla, xln, xlc⟩ := x
    simp only [PN.v]
    obtain ⟨cr, fr⟩ := HR2.out.facts
    have hrl := HR2.out.lt
    go_simp
    repeat (first | go_values | go_skip | go_guarded | go_step | go_upon)
    refine bodyPost_ret (ret_ndP rfl _ rfl rfl (blk6P HR2.out _ _ _ _ _ _)) rfl ?_
    refine ⟨⟨xk, xo, xs, xt, xn, xla, xln, xlc⟩, rfl, ?_, HP2.out.other6 hpw hgw _ _ _ _ _ _, HL2.out.other6 (by omega) _ _ _ _ _ _⟩
    exact (HT2.out.set6 (b := w.heap.size + 1 + 1) (fun g h => by omega) _ _ _ _ _ _).mono fun g h _ => by omega
  · rw [hq, if_pos rfl] at hf
    have KL := Lib.hid (within_any 456 (.pointer (some ⟨w.heap.size, 0, none⟩)) (.pointer (some ⟨w.heap.size + 1, 0, none⟩)) (fun _ _ => by kernel_rfl) p g cap long T (unF rec T k 21) s r s' W1 hf HP1.out (fun s1 r1 s2 W hs hl hp => notclo_any w.heap.size (w.heap.size + 1) p g cap long T rec HRec.out k (by omega) s1 r1 s2 W hs hp (hl.blk HA1.out (by omega)) (hl.blk HB1.out (by omega))))
    clear hf hq HFf
    go_simp
    repeat (first | go_values | go_skip | go_guarded | go_step | go_upon)
    refine Calls.mono KL.out ?_
    rintro e W2 ⟨x, rfl, ht, hp2, hl2⟩
    have HR2 := Lib.hid (hl2.blk HR1.out hwp)
    have HL2 := Lib.hid ((LeP.ofExt HX1.out).trans hl2)
    have HT2 := Lib.hid (ht.mono (B := fun g => w.heap.size + 1 + 1 < g) fun g h1 h2 => by omega)
    have HP2 := Lib.hid hp2
    clear ht hp2 hl2 HP1 HR1 HX1 HA1 HB1 ca fa cb fb KL
    obtain ⟨xk, xo, xs, xt, xn, xla, xln, xlc⟩ := x
    simp only [PN.v]
    obtain ⟨cr, fr⟩ := HR2.out.facts
    have hrl := HR2.out.lt
    go_simp
    repeat (first | go_values | go_skip | go_guarded | go_step | go_upon)
    refine bodyPost_ret (ret_ndP rfl _ rfl rfl (blk6P HR2.out _ _ _ _ _ _)) rfl ?_
    refine ⟨⟨xk, xo, xs, xt, xn, xla, xln, xlc⟩, rfl, ?_, HP2.out.other6 hpw hgw _ _ _ _ _ _, HL2.out.other6 (by omega) _ _ _ _ _ _⟩
    exact (HT2.out.set6 (b := w.heap.size + 1 + 1) (fun g h => by omega) _ _ _ _ _ _).mono fun g h _ => by omega
set_option maxHeartbeats 8000000 in
theorem pneg_any (p g cap long : Nat) (T : List Lx.Tok) (rec : Nat → PSt → Option (Tr × PSt)) (hrec : LevOk p g cap long T rec) (k : Nat) (hk : k ≤ 11) (s : PSt) (r : Tr) (s' : PSt) (w : World) (hf : notF rec T long k 5 [45] 20 s = some (r, s')) (h : PsAt w p g cap long T s) :
    Calls Tryz.prog 367 #[.pointer (some ⟨p, 0, none⟩), .int .i64 k] w (LevPost p g cap long T r s' w) := by
  have hpl : p < w.heap.size := h.blk.lt
  have hgl : g < w.heap.size := h.tok.1
  have hpw : p ≠ w.heap.size + 1 + 1 := by omega
  have hgw : g ≠ w.heap.size + 1 + 1 := by omega
  have hwp : w.heap.size + 1 + 1 ≠ p := Ne.symm hpw
  have hx0 : Ext w (((w.alloc (.cells #[.pointer (some ⟨p, 0, none⟩)] 137)).alloc (.cells #[.int .i64 (k : Int)] 3)).alloc (.cells #[.int .i64 0, .int .i64 0, .string ⟨#[]⟩, .string ⟨#[]⟩, .int .i64 0, .slice none 0 0] 196)) := ((((Ext.refl w).alloc _).alloc _).alloc _)
  have HX0 := Lib.hid hx0
  have HP0 := Lib.hid (h.ext hx0)
  have HA0 := Lib.hid (show Blk (((w.alloc (.cells #[.pointer (some ⟨p, 0, none⟩)] 137)).alloc (.cells #[.int .i64 (k : Int)] 3)).alloc (.cells #[.int .i64 0, .int .i64 0, .string ⟨#[]⟩, .string ⟨#[]⟩, .int .i64 0, .slice none 0 0] 196)) w.heap.size #[.pointer (some ⟨p, 0, none⟩)] 137 from ((Blk.new w #[.pointer (some ⟨p, 0, none⟩)] 137 rfl).alloc _).alloc _)
  have HB0 := Lib.hid (show Blk (((w.alloc (.cells #[.pointer (some ⟨p, 0, none⟩)] 137)).alloc (.cells #[.int .i64 (k : Int)] 3)).alloc (.cells #[.int .i64 0, .int .i64 0, .string ⟨#[]⟩, .string ⟨#[]⟩, .int .i64 0, .slice none 0 0] 196)) (w.heap.size + 1) #[.int .i64 (k : Int)] 3 from (Blk.new (w.alloc (.cells #[.pointer (some ⟨p, 0, none⟩)] 137)) #[.int .i64 (k : Int)] 3 (n := w.heap.size + 1) (by simp)).alloc _)
  have HR0 := Lib.hid (show Blk (((w.alloc (.cells #[.pointer (some ⟨p, 0, none⟩)] 137)).alloc (.cells #[.int .i64 (k : Int)] 3)).alloc (.cells #[.int .i64 0, .int .i64 0, .string ⟨#[]⟩, .string ⟨#[]⟩, .int .i64 0, .slice none 0 0] 196)) (w.heap.size + 1 + 1) #[.int .i64 0, .int .i64 0, .string ⟨#[]⟩, .string ⟨#[]⟩, .int .i64 0, .slice none 0 0] 196 from Blk.new ((w.alloc (.cells #[.pointer (some ⟨p, 0, none⟩)] 137)).alloc (.cells #[.int .i64 (k : Int)] 3)) #[.int .i64 0, .int .i64 0, .string ⟨#[]⟩, .string ⟨#[]⟩, .int .i64 0, .slice none 0 0] 196 (n := w.heap.size + 1 + 1) (by simp))
  have KI := Lib.hid (fun W (hW : PsAt W p g cap long T s) => is_any p g cap long T s 5 ⟨#[45]⟩ W hW)
  have HRec := Lib.hid hrec
  have hk1 := IntWalk.i64_in ((k : Int) + 1) (by omega)
  have HFf := Lib.hid hf
  clear h hx0 hrec hf
  go_enter Tryz.func367, Tryz.ntmps367
  go_simp
  repeat (first | go_values | go_skip | go_guarded | go_step | go_upon)
  refine Calls.mono (KI.out _ HP0.out) ?_
  rintro e W1 ⟨rfl, hb1⟩
  have HP1 := Lib.hid (HP0.out.ext hb1)
  have HA1 := Lib.hid (HA0.out.keep hb1)
  have HB1 := Lib.hid (HB0.out.keep hb1)
  have HR1 := Lib.hid (HR0.out.keep hb1)
  have HX1 := Lib.hid (HX0.out.trans hb1)
  clear hb1 HP0 HA0 HB0 HR0 HX0
  have hw1 : w.heap.size + 1 + 1 < W1.heap.size := HR1.out.lt
  rw [show bsl ⟨#[45]⟩ = [45] from rfl]
  have hf := HFf.out
  unfold notF at hf
  obtain ⟨ca, fa⟩ := HA1.out.facts
  obtain ⟨cb, fb⟩ := HB1.out.facts
  have hal := HA1.out.lt
  have hbl := HB1.out.lt
  cases hq : isB T s 5 [45]
  · rw [hq, if_neg (by decide)] at hf
    have KL := Lib.hid (HRec.out (k + 1) ((k : Int) + 1) s r s' W1 (by omega) (by omega) hf HP1.out)
    clear hf hq HFf
    go_simp
    repeat (first | go_values | go_skip | go_guarded | go_step | go_upon)
    refine Calls.mono KL.out ?_
    rintro e W2 ⟨x, rfl, ht, hp2, hl2⟩
    have HR2 := Lib.hid (hl2.blk HR1.out hwp)
    have HL2 := Lib.hid ((LeP.ofExt HX1.out).trans hl2)
    have HT2 := Lib.hid (ht.mono (B := fun g => w.heap.size + 1 + 1 < g) fun g h1 h2 => by omega)
    have HP2 := Lib.hid hp2
    clear ht hp2 hl2 HP1 HR1 HX1 HA1 HB1 ca fa cb fb KL
    obtain ⟨xk, xo, xs, xt, xn, xla, xln, xlc⟩ := x
    simp only [PN.v]
    obtain ⟨cr, fr⟩ := HR2.out.facts
    have hrl := HR2.out.lt
    go_simp
    repeat (first | go_values | go_skip | go_guarded | go_step | go_upon)
    refine bodyPost_ret (ret_ndP rfl _ rfl rfl (blk6P HR2.out _ _ _ _ _ _)) rfl ?_
    refine ⟨⟨xk, xo, xs, xt, xn, xla, xln, xlc⟩, rfl, ?_, HP2.out.other6 hpw hgw _ _ _ _ _ _, HL2.out.other6 (by omega) _ _ _ _ _ _⟩
    exact (HT2.out.set6 (b := w.heap.size + 1 + 1) (fun g h => by omega) _ _ _ _ _ _).mono fun g h _ => by omega
  · rw [hq, if_pos rfl] at hf
    have KL := Lib.hid (within_any 458 (.pointer (some ⟨w.heap.size, 0, none⟩)) (.pointer (some ⟨w.heap.size + 1, 0, none⟩)) (fun _ _ => by kernel_rfl) p g cap long T (unF rec T k 20) s r s' W1 hf HP1.out (fun s1 r1 s2 W hs hl hp => negclo_any w.heap.size (w.heap.size + 1) p g cap long T rec HRec.out k (by omega) s1 r1 s2 W hs hp (hl.blk HA1.out (by omega)) (hl.blk HB1.out (by omega))))
    clear hf hq HFf
    go_simp
    repeat (first | go_values | go_skip | go_guarded | go_step | go_upon)
    refine Calls.mono KL.out ?_
    rintro e W2 ⟨x, rfl, ht, hp2, hl2⟩
    have HR2 := Lib.hid (hl2.blk HR1.out hwp)
    have HL2 := Lib.hid ((LeP.ofExt HX1.out).trans hl2)
    have HT2 := Lib.hid (ht.mono (B := fun g => w.heap.size + 1 + 1 < g) fun g h1 h2 => by omega)
    have HP2 := Lib.hid hp2
    clear ht hp2 hl2 HP1 HR1 HX1 HA1 HB1 ca fa cb fb KL
    obtain ⟨xk, xo, xs, xt, xn, xla, xln, xlc⟩ := x
    simp only [PN.v]
    obtain ⟨cr, fr⟩ := HR2.out.facts
    have hrl := HR2.out.lt
    go_simp
    repeat (first | go_values | go_skip | go_guarded | go_step | go_upon)
    refine bodyPost_ret (ret_ndP rfl _ rfl rfl (blk6P HR2.out _ _ _ _ _ _)) rfl ?_
    refine ⟨⟨xk, xo, xs, xt, xn, xla, xln, xlc⟩, rfl, ?_, HP2.out.other6 hpw hgw _ _ _ _ _ _, HL2.out.other6 (by omega) _ _ _ _ _ _⟩
    exact (HT2.out.set6 (b := w.heap.size + 1 + 1) (fun g h => by omega) _ _ _ _ _ _).mono fun g h _ => by omega
end Go.Proofs.YtchpbdodlbghaaaGreatDoor
namespace Go.Proofs.YtchpbdodlbghaaaGreatDoor
open Go.RowKit Go.Lib
set_option maxRecDepth 100000

def wantF (T : List Lx.Tok) (long : Nat) (s : PSt) (x : List UInt8) : PSt := if isB T s 5 x then { s with i := s.i + 1 } else wrongP T long 10 s
set_option maxHeartbeats 4000000 in
theorem wantOp_any (p g cap long : Nat) (T : List Lx.Tok) (s : PSt) (x : ByteArray) (w : World) (h : PsAt w p g cap long T s) :
    Calls Tryz.prog 126 #[.pointer (some ⟨p, 0, none⟩), .string x] w fun e w' => e = .returned (.tuple #[]) ∧ PsAt w' p g cap long T (wantF T long s (bsl x)) ∧ LeP p w w' := by
  have KO := Lib.hid (pop_any p g cap long T s x w h)
  unfold wantF
  cases hq : isB T s 5 (bsl x)
  · rw [hq] at KO
    have KW := Lib.hid (fun W (hW : PsAt W p g cap long T s) => wrong_any p g cap long T s 10 W hW)
    rw [if_neg (by decide)]
    clear h hq
    go_enter Tryz.func126, Tryz.ntmps126
    go_simp
    repeat (first | go_values | go_skip | go_guarded | go_step | go_upon)
    refine Calls.mono KO.out ?_
    rintro e W1 ⟨rfl, hp, hl⟩
    have HP1 := Lib.hid (show PsAt W1 p g cap long T s from hp)
    have HL1 := Lib.hid hl
    clear hp hl KO
    go_simp
    repeat (first | go_values | go_skip | go_guarded | go_step | go_upon)
    refine Calls.mono (KW.out W1 HP1.out) ?_
    rintro e W2 ⟨rfl, hp, hl⟩
    have HP2 := Lib.hid hp
    have HL2 := Lib.hid (HL1.out.trans hl)
    clear hp hl KW HP1 HL1
    go_simp
    repeat (first | go_values | go_skip | go_guarded | go_step | go_upon)
    go_returns
    exact ⟨rfl, HP2.out, HL2.out⟩
  · rw [hq] at KO
    rw [if_pos rfl]
    clear h hq
    go_enter Tryz.func126, Tryz.ntmps126
    go_simp
    repeat (first | go_values | go_skip | go_guarded | go_step | go_upon)
    refine Calls.mono KO.out ?_
    rintro e W1 ⟨rfl, hp, hl⟩
    have HP1 := Lib.hid (show PsAt W1 p g cap long T { s with i := s.i + 1 } from hp)
    have HL1 := Lib.hid hl
    clear hp hl KO
    go_simp
    repeat (first | go_values | go_skip | go_guarded | go_step | go_upon)
    go_returns
    exact ⟨rfl, HP1.out, HL1.out⟩
def parenF (rec : Nat → PSt → Option (Tr × PSt)) (T : List Lx.Tok) (long : Nat) (s : PSt) : Option (Tr × PSt) :=
  if s.i < T.length then (rec 1 { s with i := s.i + 1 }).bind fun m => some (m.1, wantF T long m.2 [41]) else none
set_option maxHeartbeats 8000000 in
theorem paren_any (b2 : Nat) (p g cap long : Nat) (T : List Lx.Tok) (rec : Nat → PSt → Option (Tr × PSt)) (hrec : LevOk p g cap long T rec) (s : PSt) (r : Tr) (s' : PSt) (w : World) (hf : parenF rec T long s = some (r, s')) (h : PsAt w p g cap long T s)
    (h2 : Blk w b2 #[.pointer (some ⟨p, 0, none⟩)] 137) (h2p : b2 ≠ p) :
    Calls Tryz.prog 460 #[.pointer (some ⟨b2, 0, none⟩)] w (LevPost p g cap long T r s' w) := by
  have hpl : p < w.heap.size := h.blk.lt
  have hpw : p ≠ w.heap.size := by omega
  have hgw : g ≠ w.heap.size := by have := h.tok.1; omega
  have hwp : w.heap.size ≠ p := Ne.symm hpw
  have h2w : b2 < w.heap.size := h2.lt
  unfold parenF at hf
  by_cases hlt : s.i < T.length
  · rw [if_pos hlt] at hf
    cases hr1 : rec 1 { s with i := s.i + 1 } with
    | none => rw [hr1] at hf; cases hf
    | some m1 =>
      obtain ⟨m, s2⟩ := m1
      rw [hr1] at hf
      obtain ⟨rfl, rfl⟩ := Prod.mk.inj (Option.some.inj hf)
      clear hf
      obtain ⟨i, deep, at_, er⟩ := s
      simp only at hr1 hlt
      have hfew := h.few
      have hl0 : LeP p w ((w.setCell ⟨p, 1, none⟩ (.int .i64 ((i : Int) + 1))).alloc (.cells #[.int .i64 0, .int .i64 0, .string ⟨#[]⟩, .string ⟨#[]⟩, .int .i64 0, .slice none 0 0] 196)) := (LeP.set 1 _).trans (LeP.ofExt ((Ext.refl _).alloc _))
      have hp0 : PsAt ((w.setCell ⟨p, 1, none⟩ (.int .i64 ((i : Int) + 1))).alloc (.cells #[.int .i64 0, .int .i64 0, .string ⟨#[]⟩, .string ⟨#[]⟩, .int .i64 0, .slice none 0 0] 196)) p g cap long T ⟨i + 1, deep, at_, er⟩ := by
        refine PsAt.ext (w := w.setCell ⟨p, 1, none⟩ (.int .i64 ((i : Int) + 1))) (h.set (LeP.set 1 _) ?_ (by show i + 1 ≤ _; omega)) ((Ext.refl _).alloc _)
        exact h.blk.set 1 _
      have hr0 : Blk ((w.setCell ⟨p, 1, none⟩ (.int .i64 ((i : Int) + 1))).alloc (.cells #[.int .i64 0, .int .i64 0, .string ⟨#[]⟩, .string ⟨#[]⟩, .int .i64 0, .slice none 0 0] 196)) w.heap.size #[.int .i64 0, .int .i64 0, .string ⟨#[]⟩, .string ⟨#[]⟩, .int .i64 0, .slice none 0 0] 196 := Blk.new _ _ _ (by simp)
      have hlt0 : w.heap.size < (((w.setCell ⟨p, 1, none⟩ (.int .i64 ((i : Int) + 1))).alloc (.cells #[.int .i64 0, .int .i64 0, .string ⟨#[]⟩, .string ⟨#[]⟩, .int .i64 0, .slice none 0 0] 196))).heap.size := hr0.lt
      have KL := hrec 1 1 _ m s2 _ rfl (by decide) hr1 hp0
      have hb := h.blk
      simp only [psC] at hb
      have hsum := IntWalk.i64_in ((i : Int) + 1) (by omega)
      obtain ⟨cb, fb⟩ := hb.facts
      obtain ⟨c2, f2⟩ := h2.facts
      have hbl := hb.lt
      have h2l := h2.lt
      have HA0 := Lib.hid (hl0.blk h2 h2p)
      have HH := Lib.hid (And.intro hl0 (And.intro hp0 (And.intro hr0 hlt0)))
      have HKL := Lib.hid KL
      have KW := Lib.hid (fun (s : PSt) W (hW : PsAt W p g cap long T s) => wantOp_any p g cap long T s ⟨#[41]⟩ W hW)
      clear hb h h2 hr1 hrec hl0 hp0 hr0 hlt0 KL
      go_enter Tryz.func460, Tryz.ntmps460
      go_simp
      repeat (first | go_values | go_skip | go_guarded | go_step | go_upon)
      obtain ⟨hl0, hp0, hr0, hlt0⟩ := HH.out
      refine Calls.mono HKL.out ?_
      rintro e W2 ⟨x, rfl, ht2, hp2, hl2⟩
      have HR2 := Lib.hid (hl2.blk hr0 hwp)
      have HL2 := Lib.hid (hl0.trans hl2)
      have HT2 := Lib.hid (ht2.mono (B := blkA w.heap.size W2.heap.size) fun g h1 h2 => ⟨by omega, by omega⟩)
      have HP2 := Lib.hid hp2
      have HA2 := Lib.hid (hl2.blk HA0.out h2p)
      clear ht2 hp2 hl2 hl0 hp0 hr0 hlt0 cb fb hbl c2 f2 h2l HH HKL HA0
      obtain ⟨xk, xo, xs, xt, xn, xla, xln, xlc⟩ := x
      simp only [PN.v]
      obtain ⟨c2, f2⟩ := HA2.out.facts
      have h2l := HA2.out.lt
      have hx1 : Ext W2 (W2.alloc (.cells #[.int .i64 xk, .int .i64 xo, .string xs, .string xt, .int .i64 xn, .slice xla xln xlc] 196)) := (Ext.refl W2).alloc _
      have hB5 : W2.heap.size ≠ p := by have := HP2.out.blk.lt; omega
      go_simp
      repeat (first | go_values | go_skip | go_guarded | go_step | go_upon)
      refine Calls.mono (KW.out s2 _ (HP2.out.ext hx1)) ?_
      rw [show bsl ⟨#[41]⟩ = [41] from rfl]
      rintro e W3 ⟨rfl, hp3, hl3⟩
      have HV3 := Lib.hid (hl3.blk (Blk.new W2 #[.int .i64 xk, .int .i64 xo, .string xs, .string xt, .int .i64 xn, .slice xla xln xlc] 196 rfl) hB5)
      have HR3 := Lib.hid (hl3.blk (HR2.out.keep hx1) hwp)
      have HT3 := Lib.hid (HT2.out.later (p := p) (fun g h => by omega) ((LeP.ofExt hx1).trans hl3))
      have HL3 := Lib.hid ((HL2.out.trans (LeP.ofExt hx1)).trans hl3)
      have HP3 := Lib.hid hp3
      clear hp3 hl3 hx1 HP2 HR2 HL2 HT2 HA2 c2 f2 h2l
      obtain ⟨cv, fv⟩ := HV3.out.facts
      obtain ⟨cr, fr⟩ := HR3.out.facts
      have hvl := HV3.out.lt
      have hrl := HR3.out.lt
      go_simp
      repeat (first | go_values | go_skip | go_guarded | go_step | go_upon)
      refine bodyPost_ret (ret_ndP rfl _ rfl rfl (blk6P HR3.out _ _ _ _ _ _)) rfl ?_
      refine ⟨⟨xk, xo, xs, xt, xn, xla, xln, xlc⟩, rfl, ?_, HP3.out.other6 hpw hgw _ _ _ _ _ _, HL3.out.other6 (Nat.le_refl _) _ _ _ _ _ _⟩
      exact (HT3.out.set6 (b := w.heap.size) (fun g h => by omega) _ _ _ _ _ _).mono fun g h _ => Nat.le_of_lt h.1
  · rw [if_neg hlt] at hf; cases hf
end Go.Proofs.YtchpbdodlbghaaaGreatDoor
namespace Go.Proofs.YtchpbdodlbghaaaGreatDoor
open Go.RowKit Go.Lib
set_option maxRecDepth 100000

def wantW (T : List Lx.Tok) (long : Nat) (s : PSt) (x : List UInt8) : PSt := if isB T s 2 x then { s with i := s.i + 1 } else wrongP T long 10 s
set_option maxHeartbeats 4000000 in
theorem want_any (p g cap long : Nat) (T : List Lx.Tok) (s : PSt) (x : ByteArray) (b : Nat) (w : World) (h : PsAt w p g cap long T s) (hb : Blk w b #[.string x] 9) :
    Calls Tryz.prog 77 #[.pointer (some ⟨p, 0, none⟩), .slice (some ⟨b, 0, none⟩) 1 1] w fun e w' => e = .returned (.tuple #[]) ∧ PsAt w' p g cap long T (wantW T long s (bsl x)) ∧ LeP p w w' := by
  have KO := Lib.hid (pword_any p g cap long T s x w h)
  obtain ⟨c2, f2⟩ := hb.facts
  have h2l := hb.lt
  unfold wantW
  cases hq : isB T s 2 (bsl x)
  · rw [hq] at KO
    have KW := Lib.hid (fun W (hW : PsAt W p g cap long T s) => wrong_any p g cap long T s 10 W hW)
    rw [if_neg (by decide)]
    clear h hq hb
    go_enter Tryz.func77, Tryz.ntmps77
    go_simp
    repeat (first | go_values | go_skip | go_guarded | go_step | go_upon)
    refine wp_loop_rounds 2 ?_
    rw [rounds_succ]
    go_simp
    repeat (first | go_values | go_skip | go_guarded | go_step | go_upon)
    refine Calls.mono KO.out ?_
    rintro e W1 ⟨rfl, hp, hl⟩
    have HP1 := Lib.hid (show PsAt W1 p g cap long T s from hp)
    have HL1 := Lib.hid hl
    clear hp hl KO c2 f2 h2l
    go_simp
    repeat (first | go_values | go_skip | go_guarded | go_step | go_upon)
    refine Calls.mono (KW.out W1 HP1.out) ?_
    rintro e W2 ⟨rfl, hp, hl⟩
    have HP2 := Lib.hid hp
    have HL2 := Lib.hid (HL1.out.trans hl)
    clear hp hl KW HP1 HL1
    go_simp
    repeat (first | go_values | go_skip | go_guarded | go_step | go_upon)
    rw [rounds_succ]
    go_simp
    repeat (first | go_values | go_skip | go_guarded | go_step | go_upon)
    go_returns
    exact ⟨rfl, HP2.out, HL2.out⟩
  · rw [hq] at KO
    rw [if_pos rfl]
    clear h hq hb
    go_enter Tryz.func77, Tryz.ntmps77
    go_simp
    repeat (first | go_values | go_skip | go_guarded | go_step | go_upon)
    refine wp_loop_rounds 2 ?_
    rw [rounds_succ]
    go_simp
    repeat (first | go_values | go_skip | go_guarded | go_step | go_upon)
    refine Calls.mono KO.out ?_
    rintro e W1 ⟨rfl, hp, hl⟩
    have HP1 := Lib.hid (show PsAt W1 p g cap long T { s with i := s.i + 1 } from hp)
    have HL1 := Lib.hid hl
    clear hp hl KO c2 f2 h2l
    go_simp
    repeat (first | go_values | go_skip | go_guarded | go_step | go_upon)
    rw [rounds_succ]
    go_simp
    repeat (first | go_values | go_skip | go_guarded | go_step | go_upon)
    go_returns
    exact ⟨rfl, HP1.out, HL1.out⟩
def kindF (T : List Lx.Tok) (long : Nat) (s : PSt) : Int × PSt :=
  if isB T s 2 [66, 79, 79, 76] then (1, { s with i := s.i + 1 }) else if isB T s 2 [73, 78, 84] then (2, { s with i := s.i + 1 }) else if isB T s 2 [84, 69, 88, 84] then (3, { s with i := s.i + 1 }) else (0, wrongP T long 10 s)
set_option maxHeartbeats 4000000 in
theorem kind_any (p g cap long : Nat) (T : List Lx.Tok) (s : PSt) (w : World) (h : PsAt w p g cap long T s) :
    Calls Tryz.prog 197 #[.pointer (some ⟨p, 0, none⟩)] w fun e w' => e = .returned (.int .i64 (kindF T long s).1) ∧ PsAt w' p g cap long T (kindF T long s).2 ∧ LeP p w w' := by
  have KO := Lib.hid (fun (x : ByteArray) W (hW : PsAt W p g cap long T s) => pword_any p g cap long T s x W hW)
  have HP := Lib.hid h
  unfold kindF
  clear h
  cases h1 : isB T s 2 [66, 79, 79, 76]
  · cases h2 : isB T s 2 [73, 78, 84]
    · cases h3 : isB T s 2 [84, 69, 88, 84]
      · have KW := Lib.hid (fun W (hW : PsAt W p g cap long T s) => wrong_any p g cap long T s 10 W hW)
        simp only [if_neg (show ¬ (false = true) by decide)]
        go_enter Tryz.func197, Tryz.ntmps197
        go_simp
        repeat (first | go_values | go_skip | go_guarded | go_step | go_upon)
        refine Calls.mono (KO.out ⟨#[66, 79, 79, 76]⟩ _ HP.out) ?_
        rw [show bsl ⟨#[66, 79, 79, 76]⟩ = [66, 79, 79, 76] from rfl, h1]
        rintro e W1 ⟨rfl, hp, hl⟩
        have HP1 := Lib.hid (show PsAt W1 p g cap long T s from hp)
        have HL1 := Lib.hid hl
        clear hp hl
        go_simp
        repeat (first | go_values | go_skip | go_guarded | go_step | go_upon)
        refine Calls.mono (KO.out ⟨#[73, 78, 84]⟩ _ HP1.out) ?_
        rw [show bsl ⟨#[73, 78, 84]⟩ = [73, 78, 84] from rfl, h2]
        rintro e W2 ⟨rfl, hp, hl⟩
        have HP2 := Lib.hid (show PsAt W2 p g cap long T s from hp)
        have HL2 := Lib.hid (HL1.out.trans hl)
        clear hp hl
        go_simp
        repeat (first | go_values | go_skip | go_guarded | go_step | go_upon)
        refine Calls.mono (KO.out ⟨#[84, 69, 88, 84]⟩ _ HP2.out) ?_
        rw [show bsl ⟨#[84, 69, 88, 84]⟩ = [84, 69, 88, 84] from rfl, h3]
        rintro e W3 ⟨rfl, hp, hl⟩
        have HP3 := Lib.hid (show PsAt W3 p g cap long T s from hp)
        have HL3 := Lib.hid (HL2.out.trans hl)
        clear hp hl
        go_simp
        repeat (first | go_values | go_skip | go_guarded | go_step | go_upon)
        refine Calls.mono (KW.out W3 HP3.out) ?_
        rintro e W4 ⟨rfl, hp, hl⟩
        have HP4 := Lib.hid hp
        have HL4 := Lib.hid (HL3.out.trans hl)
        clear hp hl KW HP3 HL3 HP2 HL2 HP1 HL1 HP
        go_simp
        repeat (first | go_values | go_skip | go_guarded | go_step | go_upon)
        go_returns
        exact ⟨rfl, HP4.out, HL4.out⟩
      · simp only [if_neg (show ¬ (false = true) by decide), if_true]
        go_enter Tryz.func197, Tryz.ntmps197
        go_simp
        repeat (first | go_values | go_skip | go_guarded | go_step | go_upon)
        refine Calls.mono (KO.out ⟨#[66, 79, 79, 76]⟩ _ HP.out) ?_
        rw [show bsl ⟨#[66, 79, 79, 76]⟩ = [66, 79, 79, 76] from rfl, h1]
        rintro e W1 ⟨rfl, hp, hl⟩
        have HP1 := Lib.hid (show PsAt W1 p g cap long T s from hp)
        have HL1 := Lib.hid hl
        clear hp hl
        go_simp
        repeat (first | go_values | go_skip | go_guarded | go_step | go_upon)
        refine Calls.mono (KO.out ⟨#[73, 78, 84]⟩ _ HP1.out) ?_
        rw [show bsl ⟨#[73, 78, 84]⟩ = [73, 78, 84] from rfl, h2]
        rintro e W2 ⟨rfl, hp, hl⟩
        have HP2 := Lib.hid (show PsAt W2 p g cap long T s from hp)
        have HL2 := Lib.hid (HL1.out.trans hl)
        clear hp hl
        go_simp
        repeat (first | go_values | go_skip | go_guarded | go_step | go_upon)
        refine Calls.mono (KO.out ⟨#[84, 69, 88, 84]⟩ _ HP2.out) ?_
        rw [show bsl ⟨#[84, 69, 88, 84]⟩ = [84, 69, 88, 84] from rfl, h3]
        rintro e W3 ⟨rfl, hp, hl⟩
        have HP3 := Lib.hid (show PsAt W3 p g cap long T { s with i := s.i + 1 } from hp)
        have HL3 := Lib.hid (HL2.out.trans hl)
        clear hp hl HP2 HL2 HP1 HL1 HP KO
        go_simp
        repeat (first | go_values | go_skip | go_guarded | go_step | go_upon)
        go_returns
        exact ⟨rfl, HP3.out, HL3.out⟩
    · simp only [if_neg (show ¬ (false = true) by decide), if_true]
      go_enter Tryz.func197, Tryz.ntmps197
      go_simp
      repeat (first | go_values | go_skip | go_guarded | go_step | go_upon)
      refine Calls.mono (KO.out ⟨#[66, 79, 79, 76]⟩ _ HP.out) ?_
      rw [show bsl ⟨#[66, 79, 79, 76]⟩ = [66, 79, 79, 76] from rfl, h1]
      rintro e W1 ⟨rfl, hp, hl⟩
      have HP1 := Lib.hid (show PsAt W1 p g cap long T s from hp)
      have HL1 := Lib.hid hl
      clear hp hl
      go_simp
      repeat (first | go_values | go_skip | go_guarded | go_step | go_upon)
      refine Calls.mono (KO.out ⟨#[73, 78, 84]⟩ _ HP1.out) ?_
      rw [show bsl ⟨#[73, 78, 84]⟩ = [73, 78, 84] from rfl, h2]
      rintro e W2 ⟨rfl, hp, hl⟩
      have HP2 := Lib.hid (show PsAt W2 p g cap long T { s with i := s.i + 1 } from hp)
      have HL2 := Lib.hid (HL1.out.trans hl)
      clear hp hl HP1 HL1 HP KO
      go_simp
      repeat (first | go_values | go_skip | go_guarded | go_step | go_upon)
      go_returns
      exact ⟨rfl, HP2.out, HL2.out⟩
  · simp only [if_true]
    go_enter Tryz.func197, Tryz.ntmps197
    go_simp
    repeat (first | go_values | go_skip | go_guarded | go_step | go_upon)
    refine Calls.mono (KO.out ⟨#[66, 79, 79, 76]⟩ _ HP.out) ?_
    rw [show bsl ⟨#[66, 79, 79, 76]⟩ = [66, 79, 79, 76] from rfl, h1]
    rintro e W1 ⟨rfl, hp, hl⟩
    have HP1 := Lib.hid (show PsAt W1 p g cap long T { s with i := s.i + 1 } from hp)
    have HL1 := Lib.hid hl
    clear hp hl HP KO
    go_simp
    repeat (first | go_values | go_skip | go_guarded | go_step | go_upon)
    go_returns
    exact ⟨rfl, HP1.out, HL1.out⟩
set_option maxHeartbeats 4000000 in
theorem aggr_any (x : List UInt8) (w : World) : Calls Tryz.prog 533 #[.string ⟨x.toArray⟩] w fun e w' => e = .returned (.bool (aggB x)) ∧ w' = w := by
  unfold aggB
  cases h1 : x == [99, 111, 117, 110, 116] <;> cases h2 : x == [115, 117, 109] <;> cases h3 : x == [109, 105, 110] <;> cases h4 : x == [109, 97, 120]
  all_goals
    go_enter Tryz.func533, Tryz.ntmps533
    go_wp2
    go_returns
    exact ⟨rfl, rfl⟩
end Go.Proofs.YtchpbdodlbghaaaGreatDoor
