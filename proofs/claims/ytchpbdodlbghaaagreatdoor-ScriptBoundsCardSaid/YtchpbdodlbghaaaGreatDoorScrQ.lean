import Derived.Test.YtchpbdodlbghaaaGreatDoorScrD
import Derived.Test.YtchpbdodlbghaaaGreatDoorScrE
import Derived.Test.YtchpbdodlbghaaaGreatDoorScrN
namespace Go.Proofs.YtchpbdodlbghaaaGreatDoor
open Go.RowKit Go.Lib
set_option maxRecDepth 100000

theorem numtext (n : Int) (h0 : 0 ≤ n) (h1 : n < 100) (w : World) : Calls Tryz.prog 15 #[.int .i64 n] w fun e w' => e = .returned (.string ⟨(Lib.decDigits n.toNat).toArray⟩) ∧ w' = w := by
  obtain ⟨i, rfl⟩ : ∃ i : Nat, n = (i : Int) := ⟨n.toNat, by omega⟩
  have HK := Lib.hid (Tryz.strconv_FormatInt_10_small i (by omega) w)
  rw [Int.toNat_natCast]
  go_enter Tryz.func15, Tryz.ntmps15
  go_wp2_with fail
  refine HK.out.mono ?_
  rintro e w' ⟨rfl, rfl⟩
  go_wp2_with fail
  go_ret
  exact ⟨rfl, rfl⟩
theorem scrnum_any (n : Int) (h0 : 0 ≤ n) (h1 : n < 100) (w : World) : Calls Tryz.prog 8 #[.int .i64 n] w fun e w' => e = .returned (.string ⟨(Lib.decDigits n.toNat).toArray⟩) ∧ w' = w := by
  have HK := Lib.hid (numtext n h0 h1 w)
  generalize (⟨(Lib.decDigits n.toNat).toArray⟩ : ByteArray) = t at HK ⊢
  go_enter Tryz.func8, Tryz.ntmps8
  go_wp2_with fail
  refine HK.out.mono ?_
  rintro e w' ⟨rfl, rfl⟩
  go_wp2_with fail
  go_ret
  exact ⟨rfl, rfl⟩
theorem num10 (w : World) : Calls Tryz.prog 8 #[.int .i64 10] w fun e w' => e = .returned (.string ⟨#[49, 48]⟩) ∧ w' = w := by
  have h := scrnum_any 10 (by decide) (by decide) w
  rwa [show (⟨(Lib.decDigits (10 : Int).toNat).toArray⟩ : ByteArray) = ⟨#[49, 48]⟩ by decide +kernel] at h
theorem num0 (w : World) : Calls Tryz.prog 8 #[.int .i64 0] w fun e w' => e = .returned (.string ⟨#[48]⟩) ∧ w' = w := by
  have h := scrnum_any 0 (by decide) (by decide) w
  rwa [show (⟨(Lib.decDigits (0 : Int).toNat).toArray⟩ : ByteArray) = ⟨#[48]⟩ by decide +kernel] at h
theorem num1 (w : World) : Calls Tryz.prog 8 #[.int .i64 1] w fun e w' => e = .returned (.string ⟨#[49]⟩) ∧ w' = w := by
  have h := scrnum_any 1 (by decide) (by decide) w
  rwa [show (⟨(Lib.decDigits (1 : Int).toNat).toArray⟩ : ByteArray) = ⟨#[49]⟩ by decide +kernel] at h
def zzR : ByteArray := ⟨#[101, 114, 114, 111, 114, 32, 49, 48, 32, 97, 116, 32, 48, 10]⟩
def okR0 : ByteArray := ⟨#[111, 107, 32, 48, 10]⟩
theorem zzcat : ((⟨#[101, 114, 114, 111, 114, 32]⟩ : ByteArray) ++ ⟨#[49, 48]⟩ ++ ⟨#[32, 97, 116, 32]⟩ ++ ⟨#[48]⟩ ++ ⟨#[10]⟩) = zzR := by decide +kernel
theorem okcat : ((⟨#[111, 107, 32]⟩ : ByteArray) ++ ⟨#[48]⟩ ++ ⟨#[10]⟩) = okR0 := by decide +kernel
set_option maxHeartbeats 4000000 in
theorem answer_zz (gg : Nat) (w : World) (hG : ∀ W, Ext w W → GlobL W) : Calls Tryz.prog 11 #[.pointer (some ⟨gg, 0, none⟩), .string ⟨#[122, 122]⟩] w fun e w' => e = .returned (.string zzR) ∧ Below w.heap.size w w' := by
  have KD := Lib.hid (do_zz gg w hG)
  have K10 := Lib.hid num10
  have K0 := Lib.hid num0
  clear hG
  go_enter Tryz.func11, Tryz.ntmps11
  go_simp
  repeat (first | go_values | go_skip | go_guarded | go_step | go_upon)
  refine KD.out.mono ?_
  rintro e w1 ⟨rfl, hb1⟩
  have HX1 := Lib.hid hb1
  clear hb1 KD
  go_simp
  repeat (first | go_values | go_skip | go_guarded | go_step | go_upon)
  refine (K10.out _).mono ?_
  rintro e w2 ⟨rfl, rfl⟩
  go_simp
  repeat (first | go_values | go_skip | go_guarded | go_step | go_upon)
  refine (K0.out _).mono ?_
  rintro e w3 ⟨rfl, rfl⟩
  go_simp
  repeat (first | go_values | go_skip | go_guarded | go_step | go_upon)
  go_ret
  exact ⟨by rw [← zzcat]; rfl, HX1.out.alloc HX1.out.size _⟩
set_option maxHeartbeats 4000000 in
theorem answer_ct (gg d q M1 M2 : Nat) (r b f p : Int) (w : World) (hE : Blk w gg #[.int .i64 r, .int .i64 b, .int .i64 f, .int .i64 p, .pointer (some ⟨d, 0, none⟩), .pointer (some ⟨q, 0, none⟩)] 51)
    (hD : Blk w d #[.int .i64 f, .map (some M1), .map (some M2)] 72) (hGM : GMap Tryz.prog 282 w M1 []) (hR : RegAt w q) (hgM : gg ≠ M1) (hdM : d ≠ M1) (hT : ∀ W, Ext w W → Lib.Utf8Tabs 1 2 W) (hG : ∀ W, Ext w W → GlobL W) :
    Calls Tryz.prog 11 #[.pointer (some ⟨gg, 0, none⟩), .string ⟨ctL.toArray⟩] w fun e w' => e = .returned (.string okR0) ∧ LeP M1 w w' := by
  have KD := Lib.hid (do_ct gg d q M1 M2 r b f p w hE hD hGM hR hgM hdM hT hG)
  have K0 := Lib.hid num0
  clear hE hD hGM hR hT hG
  go_enter Tryz.func11, Tryz.ntmps11
  go_simp
  repeat (first | go_values | go_skip | go_guarded | go_step | go_upon)
  refine KD.out.mono ?_
  rintro e w1 ⟨rfl, hl1⟩
  have HX1 := Lib.hid hl1
  clear hl1 KD
  go_simp
  repeat (first | go_values | go_skip | go_guarded | go_step | go_upon)
  refine (K0.out _).mono ?_
  rintro e w2 ⟨rfl, rfl⟩
  go_simp
  repeat (first | go_values | go_skip | go_guarded | go_step | go_upon)
  go_ret
  exact ⟨by rw [← okcat]; rfl, HX1.out.trans (LeP.ofExt ((Ext.refl _).alloc _))⟩
theorem builderNew {w : World} : Blk (w.alloc (.cells #[.pointer none, .slice none 0 0] 36)) w.heap.size #[.pointer none, .slice none 0 0] 36 := Blk.new w _ _ rfl
theorem run_long (s : ByteArray) (r b f p : Int) (hs : 65536 < s.size) (hs2 : s.size ≤ 1000000) (w : World) : Calls Tryz.prog 4 #[.string s, .agg #[.int .i64 r, .int .i64 b, .int .i64 f, .int .i64 p]] w fun e w' => e = .returned (.string ⟨#[101, 114, 114, 111, 114, 32, 50, 10]⟩) ∧ Below w.heap.size w w' := by
  have h1 : (65536 : Int) < (s.size : Int) := by omega
  have h2 : decide ((65536 : Int) < (s.size : Int)) = true := decide_eq_true h1
  go_enter Tryz.func4, Tryz.ntmps4
  go_simp
  repeat (first | go_values | go_skip | go_guarded | go_step | go_upon)
  go_ret
  exact ⟨rfl, by go_grown⟩
theorem e1cat : ((⟨#[101, 114, 114, 111, 114, 32]⟩ : ByteArray) ++ ⟨#[49]⟩ ++ ⟨#[10]⟩) = ⟨#[101, 114, 114, 111, 114, 32, 49, 10]⟩ := by decide +kernel
set_option maxHeartbeats 4000000 in
theorem run_bad (s : ByteArray) (r b f p : Int) (hs : s.size ≤ 65536) (hc : ¬ okC r b f p) (w : World) : Calls Tryz.prog 4 #[.string s, .agg #[.int .i64 r, .int .i64 b, .int .i64 f, .int .i64 p]] w fun e w' => e = .returned (.string ⟨#[101, 114, 114, 111, 114, 32, 49, 10]⟩) ∧ Below w.heap.size w w' := by
  have h1 : ¬ (65536 : Int) < (s.size : Int) := by omega
  have h2 : decide ((65536 : Int) < (s.size : Int)) = false := decide_eq_false h1
  have KE := Lib.hid (fun W => engine_bad r b f p hc W)
  have K1 := Lib.hid num1
  have HX0 := Lib.hid (show Ext w (w.alloc (.cells #[.int .i64 r, .int .i64 b, .int .i64 f, .int .i64 p] 23)) from (Ext.refl w).alloc _)
  go_enter Tryz.func4, Tryz.ntmps4
  go_simp
  repeat (first | go_values | go_skip | go_guarded | go_step | go_upon)
  refine (KE.out _).mono ?_
  rintro e w1 ⟨rfl, hb1⟩
  have HX1 := Lib.hid (HX0.out.trans hb1)
  clear hb1
  go_simp
  repeat (first | go_values | go_skip | go_guarded | go_step | go_upon)
  refine (K1.out _).mono ?_
  rintro e w2 ⟨rfl, rfl⟩
  go_simp
  repeat (first | go_values | go_skip | go_guarded | go_step | go_upon)
  go_ret
  exact ⟨by rw [← e1cat]; rfl, HX1.out⟩
def Ans (w0 : World) (r b f p : Int) (s : ByteArray) (t : ByteArray) : Prop := ∀ W g d q M1 M2, Ext w0 W → Blk W g #[.int .i64 r, .int .i64 b, .int .i64 f, .int .i64 p, .pointer (some ⟨d, 0, none⟩), .pointer (some ⟨q, 0, none⟩)] 51 → Blk W d #[.int .i64 f, .map (some M1), .map (some M2)] 72 → GMap Tryz.prog 282 W M1 [] → RegAt W q → g ≠ M1 → d ≠ M1 →
  Calls Tryz.prog 11 #[.pointer (some ⟨g, 0, none⟩), .string s] W fun e w' => e = .returned (.string t) ∧ LeP M1 W w'
set_option maxHeartbeats 4000000 in
theorem run_none (s : ByteArray) (r b f p : Int) (hs : s.size ≤ 65536) (hc : okC r b f p) (hn : splitT (bsl s) = []) (w : World) : Calls Tryz.prog 4 #[.string s, .agg #[.int .i64 r, .int .i64 b, .int .i64 f, .int .i64 p]] w fun e w' => e = .returned (.string ⟨#[]⟩) ∧ Below w.heap.size w w' := by
  have h1 : ¬ (65536 : Int) < (s.size : Int) := by omega
  have h2 : decide ((65536 : Int) < (s.size : Int)) = false := decide_eq_false h1
  have KE := Lib.hid (fun W => engine_good r b f p hc W)
  have KS := Lib.hid (fun W => split_any s W (by omega))
  rw [hn] at KS
  have HX0 := Lib.hid (show Ext w (w.alloc (.cells #[.int .i64 r, .int .i64 b, .int .i64 f, .int .i64 p] 23)) from (Ext.refl w).alloc _)
  go_enter Tryz.func4, Tryz.ntmps4
  go_simp
  repeat (first | go_values | go_skip | go_guarded | go_step | go_upon)
  refine (KE.out _).mono ?_
  rintro e w1 ⟨g, rfl, _, hb1⟩
  have HX1 := Lib.hid (HX0.out.trans hb1)
  clear hb1
  go_simp
  repeat (first | go_values | go_skip | go_guarded | go_step | go_upon)
  have HB2 := Lib.hid (builderNew (w := w1))
  have HX2 := Lib.hid (Ext.trans HX1.out (show Ext w1 (w1.alloc (.cells #[.pointer none, .slice none 0 0] 36)) from (Ext.refl w1).alloc _))
  refine (KS.out _).mono ?_
  rintro e w2 ⟨v, rfl, hr, hb2⟩
  have HB3 := Lib.hid (HB2.out.keep hb2)
  have HX3 := Lib.hid (Ext.trans HX2.out hb2)
  have hsz := HX1.out.size
  have HI := Lib.hid (show Lib.IsBuilderF 36 5 w.heap.size w1.heap.size (Lib.byteCells []) w2 from .inl ⟨hsz, _, HB3.out, World.ownsRowF_of (World.ownsRow_nil _ _ _ _), fun e => by cases e⟩)
  have HS3 := Lib.hid HX3.out.size
  clear hb2 HB2 HX2 HX1 HX0 KS KE HB3
  have hv : ∃ a c, v = .slice a 0 c := by
    rcases hr with ⟨rfl, _⟩ | ⟨g, c, rfl, _⟩
    · exact ⟨_, _, rfl⟩
    · exact ⟨_, _, rfl⟩
  clear hr
  obtain ⟨a, c, rfl⟩ := hv
  go_simp
  repeat (first | go_values | go_skip | go_guarded | go_step | go_upon)
  refine wp_loop_rounds 1 ?_
  rw [rounds_succ]
  go_simp
  repeat (first | go_values | go_skip | go_guarded | go_step | go_upon)
  refine (Tryz.Builder_String_any_f w.heap.size w1.heap.size [] w2 HI.out HS3.out).mono ?_
  rintro e w3 ⟨rfl, _, hb3⟩
  go_simp
  repeat (first | go_values | go_skip | go_guarded | go_step | go_upon)
  go_ret
  exact ⟨rfl, Below.trans HX3.out hb3⟩
set_option maxHeartbeats 4000000 in
theorem run_one (s : ByteArray) (x : List UInt8) (t : ByteArray) (r b f p : Int) (hs : s.size ≤ 65536) (hc : okC r b f p) (hn : splitT (bsl s) = [x]) (ht : t.size ≤ 1000000) (w : World) (hA : Ans w r b f p ⟨x.toArray⟩ t) : Calls Tryz.prog 4 #[.string s, .agg #[.int .i64 r, .int .i64 b, .int .i64 f, .int .i64 p]] w fun e w' => e = .returned (.string t) ∧ Below w.heap.size w w' := by
  have h1 : ¬ (65536 : Int) < (s.size : Int) := by omega
  have h2 : decide ((65536 : Int) < (s.size : Int)) = false := decide_eq_false h1
  have KE := Lib.hid (fun W => engine_good r b f p hc W)
  have KS := Lib.hid (fun W => split_any s W (by omega))
  rw [hn] at KS
  have HA := Lib.hid hA
  clear hA
  have HX0 := Lib.hid (show Ext w (w.alloc (.cells #[.int .i64 r, .int .i64 b, .int .i64 f, .int .i64 p] 23)) from (Ext.refl w).alloc _)
  go_enter Tryz.func4, Tryz.ntmps4
  go_simp
  repeat (first | go_values | go_skip | go_guarded | go_step | go_upon)
  refine (KE.out _).mono ?_
  rintro e w1 ⟨g, rfl, hE, hb1⟩
  have HX1 := Lib.hid (HX0.out.trans hb1)
  obtain ⟨d, q, hgB, hqB, hg, ⟨M1, M2, hdB, hm1, hm2, hd, hG1, _⟩, hr⟩ := hE
  have hgM : g ≠ M1 := fun e => by subst e; exact hG1.nocells _ _ _ hg
  have hdM : d ≠ M1 := fun e => by subst e; exact hG1.nocells _ _ _ hd
  have hml := hG1.lt
  have hmw : w.heap.size ≤ M1 := Nat.le_trans (by simp) hm1
  have HG1 := Lib.hid hg
  have HD1 := Lib.hid hd
  have HM1 := Lib.hid hG1
  have HQ1 := Lib.hid hr
  clear hb1 hg hd hG1 hr
  go_simp
  repeat (first | go_values | go_skip | go_guarded | go_step | go_upon)
  have HB2 := Lib.hid (builderNew (w := w1))
  have hxb : Ext w1 (w1.alloc (.cells #[.pointer none, .slice none 0 0] 36)) := (Ext.refl w1).alloc _
  have HX2 := Lib.hid (Ext.trans HX1.out hxb)
  refine (KS.out _).mono ?_
  rintro e w2 ⟨v, rfl, hr, hb2⟩
  have HB3 := Lib.hid (HB2.out.keep hb2)
  have HX3 := Lib.hid (Ext.trans HX2.out hb2)
  have hx13 := Ext.trans hxb hb2
  have HG3 := Lib.hid (HG1.out.keep hx13)
  have HD3 := Lib.hid (HD1.out.keep hx13)
  have HM3 := Lib.hid (HM1.out.keep hx13)
  have HQ3 := Lib.hid (HQ1.out.ext hx13)
  have hsz := HX1.out.size
  clear hb2 HB2 HX2 HX1 HX0 KS KE hxb hx13 HG1 HD1 HM1 HQ1
  have hv : ∃ gv c, v = .slice (some ⟨gv, 0, none⟩) 1 c ∧ w2.cell? ⟨gv, 0, none⟩ = some (.string ⟨x.toArray⟩) := by
    rcases hr with ⟨_, h⟩ | ⟨gv, c, rfl, _, h⟩
    · cases h
    · exact ⟨gv, c, rfl, h 0 _ rfl⟩
  clear hr
  obtain ⟨gv, c, rfl, hcv⟩ := hv
  go_simp
  repeat (first | go_values | go_skip | go_guarded | go_step | go_upon)
  refine wp_loop_rounds 2 ?_
  rw [rounds_succ]
  go_simp
  repeat (first | go_values | go_skip | go_guarded | go_step | go_upon)
  refine (HA.out w2 g d q M1 M2 HX3.out HG3.out HD3.out HM3.out HQ3.out hgM hdM).mono ?_
  rintro e w3 ⟨rfl, hl3⟩
  have HB4 := Lib.hid (hl3.blk HB3.out (show w1.heap.size ≠ M1 by omega))
  have HX4 := Lib.hid (LeP.below HX3.out hl3 hmw)
  have hs4 := Nat.le_trans HX3.out.size hl3.size
  clear hl3 HB3 HX3 HG3 HD3 HM3 HQ3 HA
  go_simp
  repeat (first | go_values | go_skip | go_guarded | go_step | go_upon)
  refine (writeString_new w.heap.size w1.heap.size t w3 HB4.out hsz ht).mono ?_
  rintro e w4 ⟨rfl, hb, hb4⟩
  have HI := Lib.hid (show Lib.IsBuilderF 36 5 w.heap.size w1.heap.size (Lib.byteCells t.data.toList) w4 from .inr (by rw [← strCells_bytes]; exact hb))
  have HX5 := Lib.hid (HX4.out.trans hb4)
  have hs5 := Nat.le_trans hs4 hb4.size
  clear hb hb4 HB4 HX4
  go_simp
  repeat (first | go_values | go_skip | go_guarded | go_step | go_upon)
  rw [rounds_succ]
  go_simp
  repeat (first | go_values | go_skip | go_guarded | go_step | go_upon)
  refine (Tryz.Builder_String_any_f w.heap.size w1.heap.size t.data.toList w4 HI.out hs5).mono ?_
  rintro e w5 ⟨rfl, _, hb5⟩
  go_simp
  repeat (first | go_values | go_skip | go_guarded | go_step | go_upon)
  go_ret
  exact ⟨rfl, Below.trans HX5.out hb5⟩
end Go.Proofs.YtchpbdodlbghaaaGreatDoor
namespace Go.Proofs.YtchpbdodlbghaaaGreatDoor
open Go.RowKit Go.Lib
set_option maxRecDepth 100000

theorem ret_cfg {t : Tmp} {fn : Func} (h : fn.results = #[.cell t 23]) (tmps : Array Value) {w : World} {g : Nat} {cs : Array Value} (hc : cs.size = 4) (hp : tmps.getD t undef = .pointer (some ⟨g, 0, none⟩)) (hg : Blk w g cs 23) :
    (results fn tmps).run Tryz.prog w = .ok (.agg cs) w := by
  have hp' : tmps[t]?.getD undef = .pointer (some ⟨g, 0, none⟩) := by simpa using hp
  have hr := run_loadVar_row w g 23 23 cs (0, 0) _ hg Tryz.underlying23 rfl (by rw [hc]; kernel_rfl)
  simp [results, h, hp', asAddr, hr]
theorem plainCfg_any (w : World) : Calls Tryz.prog 5 #[] w fun e w' => e = .returned (.agg #[.int .i64 2000, .int .i64 200, .int .i64 4, .int .i64 31]) ∧ Below w.heap.size w w' := by
  go_enter Tryz.func5, Tryz.ntmps5
  go_simp
  repeat (first | go_values | go_skip | go_guarded | go_step | go_upon)
  refine bodyPost_ret (ret_cfg rfl _ rfl rfl (Blk.new w _ _ rfl)) rfl ?_
  exact ⟨rfl, by go_grown⟩
theorem okPlain : okC 2000 200 4 31 := by decide
theorem badZero : ¬ okC 0 0 0 0 := by decide
structure GlobS (w : World) : Prop where
  l : GlobL w
  tabs : Lib.Utf8Tabs 1 2 w
theorem ans_zz (r b f p : Int) (w : World) (hG : ∀ W, Ext w W → GlobS W) : Ans w r b f p ⟨zzL.toArray⟩ zzR := fun W g d q M1 M2 hx _ _ _ _ _ _ =>
  (answer_zz g W (fun V hV => (hG V (Ext.trans hx hV)).l)).mono (by
    rintro e w' ⟨rfl, hb⟩
    exact ⟨rfl, LeP.ofExt hb⟩)
theorem ans_ct (r b f p : Int) (w : World) (hG : ∀ W, Ext w W → GlobS W) : Ans w r b f p ⟨ctL.toArray⟩ okR0 := fun W g d q M1 M2 hx h1 h2 h3 h4 h5 h6 =>
  answer_ct g d q M1 M2 r b f p W h1 h2 h3 h4 h5 h6 (fun V hV => (hG V (Ext.trans hx hV)).tabs) (fun V hV => (hG V (Ext.trans hx hV)).l)
theorem run_zz (r b f p : Int) (hc : okC r b f p) (w : World) (hG : ∀ W, Ext w W → GlobS W) : Calls Tryz.prog 4 #[.string ⟨#[122, 122]⟩, .agg #[.int .i64 r, .int .i64 b, .int .i64 f, .int .i64 p]] w fun e w' => e = .returned (.string ⟨#[101, 114, 114, 111, 114, 32, 49, 48, 32, 97, 116, 32, 48, 10]⟩) ∧ Below w.heap.size w w' :=
  run_one ⟨#[122, 122]⟩ zzL zzR r b f p (by decide) hc split_zz (by decide) w (ans_zz r b f p w hG)
theorem run_ct (w : World) (hG : ∀ W, Ext w W → GlobS W) : Calls Tryz.prog 4 #[.string ⟨#[67, 82, 69, 65, 84, 69, 32, 84, 65, 66, 76, 69, 32, 116, 32, 40, 97, 32, 73, 78, 84, 41]⟩, .agg #[.int .i64 2000, .int .i64 200, .int .i64 4, .int .i64 31]] w fun e w' => e = .returned (.string ⟨#[111, 107, 32, 48, 10]⟩) ∧ Below w.heap.size w w' :=
  run_one ⟨ctL.toArray⟩ ctL okR0 2000 200 4 31 (by decide) okPlain split_ct (by decide) w (ans_ct 2000 200 4 31 w hG)
theorem split_two (w : World) : Calls Tryz.prog 9 #[.string ⟨#[97, 59, 98, 32, 59, 32, 59]⟩] w fun e w' => (∃ a c, e = .returned (.slice a 2 c)) ∧ Below w.heap.size w w' :=
  (split_any ⟨abL.toArray⟩ w (by decide)).mono (by
    rintro e w' ⟨v, rfl, hr, hb⟩
    rw [show bsl ⟨abL.toArray⟩ = abL from rfl, split_ab] at hr
    refine ⟨?_, hb⟩
    rcases hr with ⟨_, h⟩ | ⟨g, c, rfl, _⟩
    · cases h
    · exact ⟨_, _, rfl⟩)
set_option maxHeartbeats 4000000 in
theorem awake25_any (w : World) (hG : ∀ W, Ext w W → GlobS W) : Calls Tryz.prog 7 #[] w fun e w' => e = .returned (.bool true) ∧ Below w.heap.size w w' := by
  have KP := Lib.hid plainCfg_any
  have KR := Lib.hid (fun W (hW : Ext w W) => run_ct W (fun V hV => hG V (Ext.trans hW hV)))
  have KS := Lib.hid split_two
  have KB := Lib.hid (fun W => run_bad ⟨#[]⟩ 0 0 0 0 (by decide) badZero W)
  clear hG
  go_enter Tryz.func7, Tryz.ntmps7
  go_simp
  repeat (first | go_values | go_skip | go_guarded | go_step | go_upon)
  refine (KP.out w).mono ?_
  rintro e w1 ⟨rfl, hb1⟩
  have HX1 := Lib.hid (show Ext w w1 from hb1)
  clear hb1
  go_simp
  repeat (first | go_values | go_skip | go_guarded | go_step | go_upon)
  refine (KR.out w1 HX1.out).mono ?_
  rintro e w2 ⟨rfl, hb2⟩
  have HX2 := Lib.hid (Ext.trans HX1.out hb2)
  clear hb2 HX1
  go_simp
  repeat (first | go_values | go_skip | go_guarded | go_step | go_upon)
  refine (KS.out w2).mono ?_
  rintro e w3 ⟨⟨a, c, rfl⟩, hb3⟩
  have HX3 := Lib.hid (Ext.trans HX2.out hb3)
  clear hb3 HX2
  go_simp
  repeat (first | go_values | go_skip | go_guarded | go_step | go_upon)
  refine (KB.out w3).mono ?_
  rintro e w4 ⟨rfl, hb4⟩
  go_simp
  repeat (first | go_values | go_skip | go_guarded | go_step | go_upon)
  go_ret
  exact ⟨rfl, Ext.trans HX3.out hb4⟩
end Go.Proofs.YtchpbdodlbghaaaGreatDoor
namespace Go.Proofs.YtchpbdodlbghaaaGreatDoor
open Go.RowKit Go.Lib
set_option maxRecDepth 100000

theorem and_mask17 (n : Int) : bits BinOp.and IntKind.i64 n 131071 = n % 131072 := by
  have e : (BitVec.ofInt 64 n &&& BitVec.ofInt 64 131071).toNat = (n % 131072).toNat := by
    rw [BitVec.toNat_and]
    have h : (BitVec.ofInt 64 131071).toNat = 2 ^ 17 - 1 := by decide
    rw [h, Nat.and_two_pow_sub_one_eq_mod, BitVec.toNat_ofInt]
    omega
  show IntKind.i64.wrap ((BitVec.ofInt 64 n &&& BitVec.ofInt 64 131071).toNat : Int) = _
  rw [e, IntKind.wrap_i64]
  omega
def fillA (m k : Nat) : Array Value := (List.replicate k (Value.int .u8 32) ++ List.replicate (m - k) (Value.int .u8 0)).toArray
theorem fill_zero (m : Nat) : fillA m 0 = Array.replicate m (.int .u8 0) := by simp [fillA]
theorem fill_set (m k : Nat) (h : k < m) : (fillA m k).setIfInBounds k (.int .u8 32) = fillA m (k + 1) := by
  unfold fillA
  rw [List.setIfInBounds_toArray, List.set_append, if_neg (by simp), List.length_replicate, Nat.sub_self, show m - k = (m - (k + 1)) + 1 by omega, List.replicate_succ, List.set_cons_zero, List.replicate_succ', List.append_assoc]
  rfl
theorem infoU8S : (Tryz.prog.info? 5).map (fun i => (i.zero, i.size, i.bytes)) = some (some (.int .u8 0), 1, 1) := by kernel_rfl
theorem made_zero (m : Nat) : madeCells (Value.int .u8 0).cells m = fillA m 0 := by
  rw [fill_zero]
  refine Array.ext (by simp [madeCells]) fun i h1 h2 => ?_
  have h0 : i % 1 = 0 := Nat.mod_one i
  simp [madeCells, Value.cells, h0]
theorem make_bytes (m : Nat) (hm : m ≤ 131071) (W : World) : (Instr.makeSlice 24 (.int .i64 (m : Int)) (.int .i64 (m : Int))).run Tryz.prog W = .ok (.slice (some ⟨W.heap.size, 0, none⟩) m m) (W.alloc (.cells (fillA m 0) 5)) := by
  obtain ⟨i0, hi, hz0, hz1, hz2⟩ := info_parts infoU8S
  have h := run_makeSlice (P := Tryz.prog) (w := W) 24 5 i0 (.int .u8 0) Tryz.underlying24 hi hz0 .i64 .i64 (m : Int) (m : Int) (by omega) (Int.le_refl _) (by rw [hz1]; omega) (by rw [hz2]; omega) (by omega)
  rw [hz1, Nat.mul_one, Int.toNat_natCast, made_zero] at h
  exact h
def runR (k : Nat) : ByteArray := if 65536 < k then ⟨#[101, 114, 114, 111, 114, 32, 50, 10]⟩ else ⟨#[]⟩
theorem run_blanks (k : Nat) (hk : k ≤ 131071) (w : World) : Calls Tryz.prog 4 #[.string ⟨(List.replicate k (32 : UInt8)).toArray⟩, .agg #[.int .i64 2000, .int .i64 200, .int .i64 4, .int .i64 31]] w fun e w' => e = .returned (.string (runR k)) ∧ Below w.heap.size w w' := by
  have hs : (⟨(List.replicate k (32 : UInt8)).toArray⟩ : ByteArray).size = k := by
    show (List.replicate k (32 : UInt8)).toArray.size = k
    simp
  unfold runR
  by_cases h : 65536 < k
  · rw [if_pos h]
    exact run_long _ 2000 200 4 31 (by omega) (by omega) w
  · rw [if_neg h]
    exact run_none _ 2000 200 4 31 (by omega) okPlain (by rw [show bsl ⟨(List.replicate k (32 : UInt8)).toArray⟩ = List.replicate k 32 by simp [bsl]]; exact split_blanks k) w
set_option maxHeartbeats 4000000 in
theorem law_bounds (n r b f p : Int) (w : World) (hG : ∀ W, Ext w W → GlobS W) :
    Calls Tryz.prog 3 #[.int .i64 n, .agg #[.int .i64 r, .int .i64 b, .int .i64 f, .int .i64 p]] w fun e w' => e = .returned (.bool true) ∧ Below w.heap.size w w' := by
  obtain ⟨m, hm, hm2⟩ : ∃ m : Nat, bits BinOp.and IntKind.i64 n 131071 = (m : Int) ∧ m ≤ 131071 := ⟨(n % 131072).toNat, by rw [and_mask17]; omega, by omega⟩
  have hx0 : Ext w (w.alloc (.cells #[.int .i64 r, .int .i64 b, .int .i64 f, .int .i64 p] 23)) := (Ext.refl w).alloc _
  have HC0 := Lib.hid (Blk.new w #[.int .i64 r, .int .i64 b, .int .i64 f, .int .i64 p] 23 rfl)
  have HX0 := Lib.hid hx0
  have HG := Lib.hid hG
  clear hx0 hG
  go_enter Tryz.func3, Tryz.ntmps3
  go_upto_region 1 with (fail)
  generalize w.alloc (.cells #[.int .i64 r, .int .i64 b, .int .i64 f, .int .i64 p] 23) = W0 at HX0 HC0 ⊢
  go_upto_region 2 with (fail)
  have hmk := make_bytes m hm2 W0
  go_upto_region 3 with (fail)
  have hxm : Ext W0 (W0.alloc (.cells (fillA m 0) 5)) := (Ext.refl W0).alloc _
  have HX1 := Lib.hid (Ext.trans HX0.out hxm)
  have HC1 := Lib.hid (HC0.out.keep hxm)
  have HB1 := Lib.hid (Blk.new W0 (fillA m 0) 5 rfl)
  have hgw : w.heap.size < W0.heap.size := HC0.out.lt
  clear hxm hmk HX0 HC0
  generalize W0.alloc (.cells (fillA m 0) 5) = W1 at HX1 HC1 HB1 ⊢
  repeat (first | go_values | go_skip | go_guarded | go_step | go_upon)
  go_loopw [6, 16] (fun _ i wr => ∃ k : Nat, k ≤ m ∧ i = .int .i64 (k : Int) ∧ Blk wr W0.heap.size (fillA m k) 5 ∧ Blk wr w.heap.size #[.int .i64 r, .int .i64 b, .int .i64 f, .int .i64 p] 23 ∧ Below w.heap.size w wr) (fun _ i _ => m - (intOf i).toNat)
  case atStart => exact ⟨0, Nat.zero_le _, rfl, HB1.out, HC1.out, HX1.out⟩
  case round =>
    obtain ⟨k, hk, rfl, hbk, hck, hxk⟩ := hrel
    by_cases hlt : k < m
    · have hltI : (k : Int) < (m : Int) := by omega
      have hcell : wr.cell? ⟨W0.heap.size, k, none⟩ = some ((fillA m k)[k]'(by simp [fillA]; omega)) := by rw [hbk.cell, Array.getElem?_eq_getElem]
      have hfr := hbk.free k
      have HZ := Lib.hid (show Blk (wr.setCell ⟨W0.heap.size, k, none⟩ (.int .u8 32)) W0.heap.size (fillA m (k + 1)) 5 from (by rw [← fill_set m k hlt]; exact hbk.set k _))
      have HZ2 := Lib.hid (hck.other (a := ⟨W0.heap.size, k, none⟩) (by show w.heap.size ≠ W0.heap.size; omega) (.int .u8 32))
      have HZ3 := Lib.hid (hxk.setCell (p := ⟨W0.heap.size, k, none⟩) (by show w.heap.size ≤ W0.heap.size; omega) (.int .u8 32))
      clear hbk hck hxk
      go_simp
      repeat (first | go_values | go_skip | go_guarded | go_step | go_upon)
      go_roundw
      case rel =>
        refine ⟨.int .i64 (k : Int), .int .i64 ((k + 1 : Nat) : Int), ⟨k + 1, by omega, rfl, HZ.out, HZ2.out, HZ3.out⟩, ?_⟩
        simp
      case measure =>
        simp [intOf]
        omega
    · obtain rfl : k = m := by omega
      have hltI : ¬ (k : Int) < (k : Int) := by omega
      have HBk := Lib.hid hbk
      have HCk := Lib.hid hck
      have HXk := Lib.hid hxk
      clear hbk hck hxk
      go_simp
      go_upto_region 8 with (fail)
      have hfk : fillA k k = ((List.replicate k (Value.int .u8 32)).toArray) := by simp [fillA]
      have HF := Lib.hid (show ∀ W, Ext wr W → True from fun _ _ => trivial)
      refine wp_par 5 (fun
          | 0 => fun v _ => v = .slice (some ⟨W0.heap.size, 0, none⟩) k k
          | 1 => fun v _ => v = .string ⟨(List.replicate k (32 : UInt8)).toArray⟩
          | 2 => fun v _ => v = .agg #[.int .i64 2000, .int .i64 200, .int .i64 4, .int .i64 31]
          | 3 => fun v _ => v = .string (runR k)
          | 4 => fun v _ => v = .string (runR k)
          | _ => fun _ _ => True) (by kernel_rfl) (by kernel_rfl) (by kernel_rfl) ?_ ?_
      · simp (maxSteps := 20000000) only [List.take_succ_cons, List.take_zero, ParAll, Act.put, List.setIfInBounds_toArray, List.set_cons_succ, List.set_cons_zero]
        refine ⟨?_, ?_, ?_, ?_, ?_, trivial⟩
        · intro vals W hx hd
          have hW := HF.out W hx
          simp [PDeps, pdeps, Region.binds] at hd
          first
            | refine ParOb.plain rfl ?_
            | refine ParOb.wanted (by simp [Region.wanted, yielded, hd]) ?_
          go_simp
          exact ParPost.same fun _ _ => rfl
        · intro vals W hx hd
          have hW := HF.out W hx
          simp [PDeps, pdeps, Region.binds] at hd
          first
            | refine ParOb.plain rfl ?_
            | refine ParOb.wanted (by simp [Region.wanted, yielded, hd]) ?_
          have hcv := run_convert_bytes_arg (P := Tryz.prog) W 24 5 Tryz.underlying24 Tryz.underlying5 W0.heap.size 0 k k ((List.replicate k (32 : Int))) (by simp) (fun i hi => by
            rw [Nat.zero_add, (HBk.out.keep hx).cell i, hfk]
            simp [hi, List.getD_eq_getElem?_getD]) 9 Tryz.underlying9
          have hst : strOfNums (List.replicate k (32 : Int)) = ⟨(List.replicate k (32 : UInt8)).toArray⟩ := by
            unfold strOfNums
            simp
          rw [hst] at hcv
          go_simp
          exact ParPost.same fun _ _ => rfl
        · intro vals W hx hd
          have hW := HF.out W hx
          simp [PDeps, pdeps, Region.binds] at hd
          first
            | refine ParOb.plain rfl ?_
            | refine ParOb.wanted (by simp [Region.wanted, yielded, hd]) ?_
          go_simp
          refine (plainCfg_any W).mono ?_
          rintro e w9 ⟨rfl, hb9⟩
          exact ⟨_, rfl, hb9, fun _ _ => rfl⟩
        · intro vals W hx hd
          have hW := HF.out W hx
          simp [PDeps, pdeps, Region.binds] at hd
          first
            | refine ParOb.plain rfl ?_
            | refine ParOb.wanted (by simp [Region.wanted, yielded, hd]) ?_
          go_simp
          refine (run_blanks k hm2 W).mono ?_
          rintro e w9 ⟨rfl, hb9⟩
          exact ⟨_, rfl, hb9, fun _ _ => rfl⟩
        · intro vals W hx hd
          have hW := HF.out W hx
          simp [PDeps, pdeps, Region.binds] at hd
          first
            | refine ParOb.plain rfl ?_
            | refine ParOb.wanted (by simp [Region.wanted, yielded, hd]) ?_
          go_simp
          exact ParPost.same fun _ _ => rfl
      intro vals W hx hf
      simp (maxSteps := 20000000) only [ParFacts, List.take_succ_cons, List.take_zero, and_true] at hf
      simp (maxSteps := 20000000) only [List.drop_succ_cons, List.drop_zero, List.take_succ_cons, List.take_zero, ParEnd, Act.put, List.setIfInBounds_toArray, List.set_cons_succ, List.set_cons_zero, hf]
      clear hf
      have HCW := Lib.hid (HCk.out.keep hx)
      have HXW := Lib.hid (Ext.trans (show Ext w wr from HXk.out) hx)
      clear hx HF HBk HCk HXk
      obtain ⟨cc, fc⟩ := HCW.out.facts
      have hcl := HCW.out.lt
      unfold runR
      by_cases hb : 65536 < k
      · have i1 : (65536 : Int) < (k : Int) := by omega
        have i2 : decide ((65536 : Int) < (k : Int)) = true := decide_eq_true i1
        have i3 : ¬ (k : Int) ≤ 65536 := by omega
        have i4 : decide ((k : Int) ≤ 65536) = false := decide_eq_false i3
        rw [if_pos hb]
        by_cases hc : okC r b f p
        · go_simp
          go_upto_region 11 with (fail)
          go_simp
          repeat (first | go_values | go_skip | go_guarded | go_step | go_upon)
          refine (engine_good r b f p hc W).mono ?_
          rintro e w1 ⟨g, rfl, _, hb1⟩
          have HX1' := Lib.hid (Ext.trans HXW.out hb1)
          have HCW1 := Lib.hid (HCW.out.keep hb1)
          clear hb1 cc fc
          obtain ⟨cc, fc⟩ := HCW1.out.facts
          go_simp
          repeat (first | go_values | go_skip | go_guarded | go_step | go_upon)
          refine (run_zz r b f p hc w1 (fun V hV => HG.out V (Ext.trans HX1'.out hV))).mono ?_
          rintro e w2 ⟨rfl, hb2⟩
          have HX2' := Lib.hid (Ext.trans HX1'.out hb2)
          clear hb2 cc fc
          go_simp
          repeat (first | go_values | go_skip | go_guarded | go_step | go_upon)
          refine (awake25_any w2 (fun V hV => HG.out V (Ext.trans HX2'.out hV))).mono ?_
          rintro e w3 ⟨rfl, hb3⟩
          go_simp
          repeat (first | go_values | go_skip | go_guarded | go_step | go_upon)
          go_ret
          exact ⟨rfl, Ext.trans HX2'.out hb3⟩
        · go_simp
          go_upto_region 11 with (fail)
          go_simp
          repeat (first | go_values | go_skip | go_guarded | go_step | go_upon)
          refine (engine_bad r b f p hc W).mono ?_
          rintro e w1 ⟨rfl, hb1⟩
          have HX1' := Lib.hid (Ext.trans HXW.out hb1)
          have HCW1 := Lib.hid (HCW.out.keep hb1)
          clear hb1 cc fc
          obtain ⟨cc, fc⟩ := HCW1.out.facts
          go_simp
          repeat (first | go_values | go_skip | go_guarded | go_step | go_upon)
          refine (run_bad ⟨#[122, 122]⟩ r b f p (by decide) hc w1).mono ?_
          rintro e w2 ⟨rfl, hb2⟩
          have HX2' := Lib.hid (Ext.trans HX1'.out hb2)
          clear hb2 cc fc
          go_simp
          repeat (first | go_values | go_skip | go_guarded | go_step | go_upon)
          refine (awake25_any w2 (fun V hV => HG.out V (Ext.trans HX2'.out hV))).mono ?_
          rintro e w3 ⟨rfl, hb3⟩
          go_simp
          repeat (first | go_values | go_skip | go_guarded | go_step | go_upon)
          go_ret
          exact ⟨rfl, Ext.trans HX2'.out hb3⟩
      · have i1 : ¬ (65536 : Int) < (k : Int) := by omega
        have i2 : decide ((65536 : Int) < (k : Int)) = false := decide_eq_false i1
        have i3 : (k : Int) ≤ 65536 := by omega
        have i4 : decide ((k : Int) ≤ 65536) = true := decide_eq_true i3
        rw [if_neg hb]
        by_cases hc : okC r b f p
        · go_simp
          go_upto_region 11 with (fail)
          go_simp
          repeat (first | go_values | go_skip | go_guarded | go_step | go_upon)
          refine (engine_good r b f p hc W).mono ?_
          rintro e w1 ⟨g, rfl, _, hb1⟩
          have HX1' := Lib.hid (Ext.trans HXW.out hb1)
          have HCW1 := Lib.hid (HCW.out.keep hb1)
          clear hb1 cc fc
          obtain ⟨cc, fc⟩ := HCW1.out.facts
          go_simp
          repeat (first | go_values | go_skip | go_guarded | go_step | go_upon)
          refine (run_zz r b f p hc w1 (fun V hV => HG.out V (Ext.trans HX1'.out hV))).mono ?_
          rintro e w2 ⟨rfl, hb2⟩
          have HX2' := Lib.hid (Ext.trans HX1'.out hb2)
          clear hb2 cc fc
          go_simp
          repeat (first | go_values | go_skip | go_guarded | go_step | go_upon)
          refine (awake25_any w2 (fun V hV => HG.out V (Ext.trans HX2'.out hV))).mono ?_
          rintro e w3 ⟨rfl, hb3⟩
          go_simp
          repeat (first | go_values | go_skip | go_guarded | go_step | go_upon)
          go_ret
          exact ⟨rfl, Ext.trans HX2'.out hb3⟩
        · go_simp
          go_upto_region 11 with (fail)
          go_simp
          repeat (first | go_values | go_skip | go_guarded | go_step | go_upon)
          refine (engine_bad r b f p hc W).mono ?_
          rintro e w1 ⟨rfl, hb1⟩
          have HX1' := Lib.hid (Ext.trans HXW.out hb1)
          have HCW1 := Lib.hid (HCW.out.keep hb1)
          clear hb1 cc fc
          obtain ⟨cc, fc⟩ := HCW1.out.facts
          go_simp
          repeat (first | go_values | go_skip | go_guarded | go_step | go_upon)
          refine (run_bad ⟨#[122, 122]⟩ r b f p (by decide) hc w1).mono ?_
          rintro e w2 ⟨rfl, hb2⟩
          have HX2' := Lib.hid (Ext.trans HX1'.out hb2)
          clear hb2 cc fc
          go_simp
          repeat (first | go_values | go_skip | go_guarded | go_step | go_upon)
          refine (awake25_any w2 (fun V hV => HG.out V (Ext.trans HX2'.out hV))).mono ?_
          rintro e w3 ⟨rfl, hb3⟩
          go_simp
          repeat (first | go_values | go_skip | go_guarded | go_step | go_upon)
          go_ret
          exact ⟨rfl, Ext.trans HX2'.out hb3⟩
end Go.Proofs.YtchpbdodlbghaaaGreatDoor
