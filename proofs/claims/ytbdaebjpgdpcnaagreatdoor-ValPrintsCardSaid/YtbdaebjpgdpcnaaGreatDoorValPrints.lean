/-
  The law of printed values: values are printed and shown as the document says, and any text is read as the value that prints so, or refused. The law holds: for any value and any text the call returns true, and the arguments read as they did. No condition; the listed variables of Go's library read as its text lays them (the card ties them).
-/
import Derived.Test.YtbdaebjpgdpcnaaGreatDoorPrintD
import Derived.Test.YtbdaebjpgdpcnaaGreatDoorPrintFrame
namespace Go.Proofs.YtbdaebjpgdpcnaaGreatDoor
open Go.RowKit Go.Lib
set_option maxRecDepth 100000

set_option maxHeartbeats 2000000 in
theorem refsame_self (k n : Int) (s : ByteArray) (w : World) :
    Calls Tryz.prog 14 #[.agg #[.int .i64 k, .int .i64 n, .string s], .agg #[.int .i64 k, .int .i64 n, .string s]] w fun e w' => e = .returned (.bool true) ∧ Below w.heap.size w w' := by
  have e0 : (k == k) = true := by simp
  have e1 : (n == n) = true := by simp
  have e2 : (s.toList == s.toList) = true := by simp
  go_enter Tryz.func14, Tryz.ntmps14
  go_wp2_with fail
  go_ret
  exact ⟨rfl, by go_grown⟩
theorem inr_wf {m : Int} (h : (Lit.int .i64 m).wf = true) : InR m := by
  simp [Lit.wf, IntKind.min, IntKind.max, IntKind.signed, IntKind.bits] at h
  exact ⟨by omega, by omega⟩
theorem prB_len (k n : Int) (l : List UInt8) (hn : InR n) : (prB (k, n, l)).length ≤ 2 * l.length + 22 := by
  unfold prB
  split
  · simp [nullL]
  · split
    · split <;> simp [trueL, falseL]
    · split
      · have := Lib.itoa_length_le n hn.1 hn.2
        simp only; omega
      · have := escQ_len l
        simp; omega
/-- Both readers answer alike. -/
theorem both_read (l : List UInt8) : ∃ (Y : Int × Int × List UInt8) (f : Int) (ok : Bool), rdV (candP l) l (.int .i64 3) (.int .i64 0) = .tuple #[vV Y.1 Y.2.1 ⟨Y.2.2.toArray⟩, .int .i64 f] ∧ rdV (candR l) l (.bool false) (.bool true) = .tuple #[vV Y.1 Y.2.1 ⟨Y.2.2.toArray⟩, .bool ok] ∧ ((f = 0 ∧ ok = true) ∨ (f = 3 ∧ ok = false)) := by
  have h := read_same l
  unfold readC at h
  unfold rdV
  by_cases hp : prB (candP l) = l
  · rw [if_pos hp] at h ⊢
    by_cases hr : prB (candR l) = l
    · rw [if_pos hr] at h ⊢
      rw [← (Prod.mk.inj h).1]
      exact ⟨candP l, 0, true, rfl, rfl, .inl ⟨rfl, rfl⟩⟩
    · rw [if_neg hr] at h
      cases (Prod.mk.inj h).2
  · rw [if_neg hp] at h ⊢
    by_cases hr : prB (candR l) = l
    · rw [if_pos hr] at h
      cases (Prod.mk.inj h).2
    · rw [if_neg hr]
      exact ⟨(0, 0, []), 3, false, rfl, rfl, .inr ⟨rfl, rfl⟩⟩
theorem read_own (k n : Int) (s : ByteArray) (hn : InR n) : rdV (candP (bsl (prS k n s))) (bsl (prS k n s)) (.int .i64 3) (.int .i64 0) = .tuple #[vV (cK k n s) (cN k n s) (cS k n s), .int .i64 0] := by
  have hc := cl_of k n s hn
  have hb : bsl (prS k n s) = prB (cK k n s, cN k n s, bsl (cS k n s)) := rfl
  rw [hb, candP_pr _ hc, rdV, if_pos rfl]
  rfl
set_option maxHeartbeats 16000000 in
theorem law_prints (k n : Int) (s t : ByteArray) (w : World) (hn : InR n) (hG : GlobP w) (m0 : s.size ≤ 140737488355328) (m1 : t.size ≤ 140737488355328) :
    Calls Tryz.prog 3 #[vV k n s, .string t] w fun e w' => e = .returned (.bool true) ∧ Below w.heap.size w w' := by
  have mixed : Tryz.prog.follows .mixedOrders = true := by kernel_rfl
  have hlen1 : (prS k n s).size ≤ 2 * s.size + 22 := by
    rw [← bsl_length]
    have hNr : InR (cN k n s) := by
      unfold cN
      split
      · exact hn
      · unfold InR; decide
    have q := prB_len (cK k n s) (cN k n s) (bsl (cS k n s)) hNr
    rw [bsl_length] at q
    have q2 := cS_le k n s
    have hb : bsl (prS k n s) = prB (cK k n s, cN k n s, bsl (cS k n s)) := rfl
    rw [hb]
    omega
  have HG := Lib.hid hG
  have HL1 := Lib.hid hlen1
  have KP := Lib.hid (fun W (hW : Ext w W) (h4 : s.size ≤ 4000) => valprint_any k n s W hn h4 fun W2 h2 => hG.keep (Ext.trans hW h2))
  have KRP := Lib.hid (fun W (h4 : s.size ≤ 4000) => refprint_any k n s W hn h4)
  have KS := Lib.hid (fun W (hW : Ext w W) (h4 : s.size ≤ 4000) => valshow_any k n s W hn h4 fun W2 h2 => hG.keep (Ext.trans hW h2))
  have KRS := Lib.hid (fun W (h4 : s.size ≤ 4000) => refshow_any k n s W hn h4)
  have KC := Lib.hid (fun W => refcleanP_any k n s W)
  have KR1 := Lib.hid (fun W (hW : Ext w W) (h4 : (prS k n s).size ≤ 4000) => (read_own k n s hn ▸ valread_any (prS k n s) W h4 (fun W2 h2 => hG.keep (Ext.trans hW h2)) : Calls Tryz.prog 9 #[.string (prS k n s)] W fun e w' => e = .returned (.tuple #[vV (cK k n s) (cN k n s) (cS k n s), .int .i64 0]) ∧ Below W.heap.size W w'))
  have KR2 := Lib.hid (fun W (hW : Ext w W) (h4 : t.size ≤ 4000) => valread_any t W h4 fun W2 h2 => hG.keep (Ext.trans hW h2))
  have KR3 := Lib.hid (fun W (h4 : t.size ≤ 4000) => refread_any t W h4)
  obtain ⟨Y, f, ok, hy1, hy2, hok⟩ := both_read (bsl t)
  rw [hy1] at KR2
  rw [hy2] at KR3
  clear hy1 hy2 hG hlen1 hn
  obtain ⟨yk, yn, yl⟩ := Y
  simp only at KR2 KR3
  generalize (ByteArray.mk yl.toArray) = yt at KR2 KR3
  generalize prS k n s = p at KP KRP KR1 HL1
  generalize shS k n s = sh at KS KRS
  generalize cK k n s = K at KC KR1
  generalize cN k n s = M at KC KR1
  generalize cS k n s = T at KC KR1
  simp only [vV] at KP KRP KS KRS KC KR1 KR2 KR3 ⊢
  have z1 : wrap64 ((s.size : Int) + (t.size : Int)) = (s.size : Int) + (t.size : Int) := IntWalk.wrap64_in _ (by omega)
  have hA := Blk.new w #[.int .i64 k, .int .i64 n, .string s] 23 rfl
  have hx0 := (Ext.refl w).alloc (.cells #[.int .i64 k, .int .i64 n, .string s] 23)
  have HA := Lib.hid hA
  have HX := Lib.hid hx0
  clear hA hx0
  go_enter Tryz.func3, Tryz.ntmps3
  by_cases hbig : (1000 : Int) < (s.size : Int) + (t.size : Int)
  · go_wp2_with fail
    refine Calls.mono (valawake_any _ (HG.out.keep HX.out).g) ?_
    rintro e w2 ⟨rfl, hb2⟩
    have HX2 := Lib.hid (Ext.trans HX.out hb2)
    clear hb2
    go_wp2_with fail
    go_ret
    exact ⟨rfl, HX2.out⟩
  · have hs0 : s.size ≤ 4000 := by omega
    have ht0 : t.size ≤ 4000 := by omega
    have hp0 : p.size ≤ 4000 := by have := HL1.out; omega
    go_wp2_with fail
    generalize w.alloc (.cells #[.int .i64 k, .int .i64 n, .string s] 23) = W0 at HA HX ⊢
    refine Calls.mono (KP.out W0 HX.out hs0) ?_
    rintro e w1 ⟨rfl, hb1⟩
    have HA1 := Lib.hid (HA.out.keep hb1)
    have HX1 := Lib.hid (Ext.trans HX.out hb1)
    clear hb1
    go_simp
    repeat (first | go_values | go_skip | go_guarded | go_step | go_upon)
    refine Calls.mono (KR1.out w1 HX1.out hp0) ?_
    rintro e w2 ⟨rfl, hb2⟩
    have HA2 := Lib.hid (HA1.out.keep hb2)
    have HX2 := Lib.hid (Ext.trans HX1.out hb2)
    clear hb2
    go_simp
    repeat (first | go_values | go_skip | go_guarded | go_step | go_upon)
    have HA3 := Lib.hid (HA2.out.alloc (.cells #[.int .i64 K, .int .i64 M, .string T] 23))
    have HB3 := Lib.hid (Blk.new w2 #[.int .i64 K, .int .i64 M, .string T] 23 rfl)
    have HX3 := Lib.hid (show Ext w (w2.alloc (.cells #[.int .i64 K, .int .i64 M, .string T] 23)) from Ext.trans HX2.out ((Ext.refl w2).alloc _))
    generalize w2.alloc (.cells #[.int .i64 K, .int .i64 M, .string T] 23) = W3 at HA3 HB3 HX3 ⊢
    refine Calls.mono (KR2.out W3 HX3.out ht0) ?_
    rintro e w4 ⟨rfl, hb4⟩
    have HA4 := Lib.hid (HA3.out.keep hb4)
    have HB4 := Lib.hid (HB3.out.keep hb4)
    have HX4 := Lib.hid (Ext.trans HX3.out hb4)
    clear hb4
    go_simp
    repeat (first | go_values | go_skip | go_guarded | go_step | go_upon)
    have HA5 := Lib.hid (HA4.out.alloc (.cells #[.int .i64 yk, .int .i64 yn, .string yt] 23))
    have HB5 := Lib.hid (HB4.out.alloc (.cells #[.int .i64 yk, .int .i64 yn, .string yt] 23))
    have HC5 := Lib.hid (Blk.new w4 #[.int .i64 yk, .int .i64 yn, .string yt] 23 rfl)
    have HX5 := Lib.hid (show Ext w (w4.alloc (.cells #[.int .i64 yk, .int .i64 yn, .string yt] 23)) from Ext.trans HX4.out ((Ext.refl w4).alloc _))
    generalize w4.alloc (.cells #[.int .i64 yk, .int .i64 yn, .string yt] 23) = W5 at HA5 HB5 HC5 HX5 ⊢
    refine Calls.mono (KR3.out W5 ht0) ?_
    rintro e w6 ⟨rfl, hb6⟩
    have HA6 := Lib.hid (HA5.out.keep hb6)
    have HB6 := Lib.hid (HB5.out.keep hb6)
    have HC6 := Lib.hid (HC5.out.keep hb6)
    have HX6 := Lib.hid (Ext.trans HX5.out hb6)
    clear hb6
    go_simp
    repeat (first | go_values | go_skip | go_guarded | go_step | go_upon)
    have HA7 := Lib.hid (HA6.out.alloc (.cells #[.int .i64 yk, .int .i64 yn, .string yt] 23))
    have HB7 := Lib.hid (HB6.out.alloc (.cells #[.int .i64 yk, .int .i64 yn, .string yt] 23))
    have HC7 := Lib.hid (HC6.out.alloc (.cells #[.int .i64 yk, .int .i64 yn, .string yt] 23))
    have HD7 := Lib.hid (Blk.new w6 #[.int .i64 yk, .int .i64 yn, .string yt] 23 rfl)
    have HX7 := Lib.hid (show Ext w (w6.alloc (.cells #[.int .i64 yk, .int .i64 yn, .string yt] 23)) from Ext.trans HX6.out ((Ext.refl w6).alloc _))
    generalize w6.alloc (.cells #[.int .i64 yk, .int .i64 yn, .string yt] 23) = W7 at HA7 HB7 HC7 HD7 HX7 ⊢
    clear HA HX HA1 HX1 HA2 HX2 HA3 HB3 HX3 HA4 HB4 HX4 HA5 HB5 HC5 HX5 HA6 HB6 HC6 HX6
    generalize w.heap.size = bA at HA7 ⊢
    generalize w2.heap.size = bB at HB7 ⊢
    generalize w4.heap.size = bC at HC7 ⊢
    generalize w6.heap.size = bD at HD7 ⊢
    have HF := Lib.hid (show ∀ W, Ext W7 W → (∀ o, W.cell? ⟨bA, o, none⟩ = #[.int .i64 k, .int .i64 n, .string s][o]?) ∧ (∀ o, W.cell? ⟨bB, o, none⟩ = #[.int .i64 K, .int .i64 M, .string T][o]?) from fun W hW => ⟨(HA7.out.keep hW).cell, (HB7.out.keep hW).cell⟩)
    refine wp_par 22 (fun
        | 0 => fun v _ => v = .string p
        | 1 => fun v _ => v = .agg #[.int .i64 k, .int .i64 n, .string s]
        | 2 => fun v _ => v = .string p
        | 3 => fun v _ => v = .bool false
        | 4 => fun v _ => v = .bool false
        | 5 => fun v _ => v = .agg #[.int .i64 k, .int .i64 n, .string s]
        | 6 => fun v _ => v = .string sh
        | 7 => fun v _ => v = .agg #[.int .i64 k, .int .i64 n, .string s]
        | 8 => fun v _ => v = .string sh
        | 9 => fun v _ => v = .bool false
        | 10 => fun v _ => v = .bool false
        | 11 => fun v _ => v = .bool false
        | 12 => fun v _ => v = .int .i64 0
        | 13 => fun v _ => v = .bool false
        | 14 => fun v _ => v = .bool false
        | 15 => fun v _ => v = .bool false
        | 16 => fun v _ => v = .agg #[.int .i64 K, .int .i64 M, .string T]
        | 17 => fun v _ => v = .agg #[.int .i64 k, .int .i64 n, .string s]
        | 18 => fun v _ => v = .agg #[.int .i64 K, .int .i64 M, .string T]
        | 19 => fun v _ => v = .bool true
        | 20 => fun v _ => v = .bool false
        | 21 => fun v _ => v = .bool false
        | _ => fun _ _ => True) (by kernel_rfl) (by kernel_rfl) (by kernel_rfl) ?_ ?_
    · simp (maxSteps := 20000000) only [List.take_succ_cons, List.take_zero, ParAll, Act.put, List.setIfInBounds_toArray, List.set_cons_succ, List.set_cons_zero]
      refine ⟨?_, ?_, ?_, ?_, ?_, ?_, ?_, ?_, ?_, ?_, ?_, ?_, ?_, ?_, ?_, ?_, ?_, ?_, ?_, ?_, ?_, ?_, trivial⟩
      · intro vals W hx hd
        have hW := HF.out W hx
        simp [PDeps, pdeps, Region.binds] at hd
        first
          | refine ParOb.plain rfl ?_
          | refine ParOb.wanted (by simp [Region.wanted, yielded, hd]) ?_
        go_simp
        exact ParPost.same fun _ _ => rfl
      · intro vals W hx hd
        have hW := HF.out W hx
        simp [PDeps, pdeps, Region.binds] at hd
        first
          | refine ParOb.plain rfl ?_
          | refine ParOb.wanted (by simp [Region.wanted, yielded, hd]) ?_
        go_simp
        exact ParPost.same fun _ _ => rfl
      · intro vals W hx hd
        have hW := HF.out W hx
        simp [PDeps, pdeps, Region.binds] at hd
        first
          | refine ParOb.plain rfl ?_
          | refine ParOb.wanted (by simp [Region.wanted, yielded, hd]) ?_
        go_simp
        refine Calls.mono (KRP.out W hs0) ?_
        rintro e w10 ⟨rfl, hb10⟩
        exact ⟨_, rfl, hb10, fun _ _ => rfl⟩
      · intro vals W hx hd
        have hW := HF.out W hx
        simp [PDeps, pdeps, Region.binds] at hd
        first
          | refine ParOb.plain rfl ?_
          | refine ParOb.wanted (by simp [Region.wanted, yielded, hd]) ?_
        go_simp
        exact ParPost.same fun _ _ => rfl
      · intro vals W hx hd
        have hW := HF.out W hx
        simp [PDeps, pdeps, Region.binds] at hd
        first
          | refine ParOb.plain rfl ?_
          | refine ParOb.wanted (by simp [Region.wanted, yielded, hd]) ?_
        go_simp
        exact ParPost.same fun _ _ => rfl
      · intro vals W hx hd
        have hW := HF.out W hx
        simp [PDeps, pdeps, Region.binds] at hd
        first
          | refine ParOb.plain rfl ?_
          | refine ParOb.wanted (by simp [Region.wanted, yielded, hd]) ?_
        go_simp
        exact ParPost.same fun _ _ => rfl
      · intro vals W hx hd
        have hW := HF.out W hx
        simp [PDeps, pdeps, Region.binds] at hd
        first
          | refine ParOb.plain rfl ?_
          | refine ParOb.wanted (by simp [Region.wanted, yielded, hd]) ?_
        go_simp
        refine Calls.mono (KS.out W (Ext.trans HX7.out hx) hs0) ?_
        rintro e w10 ⟨rfl, hb10⟩
        exact ⟨_, rfl, hb10, fun _ _ => rfl⟩
      · intro vals W hx hd
        have hW := HF.out W hx
        simp [PDeps, pdeps, Region.binds] at hd
        first
          | refine ParOb.plain rfl ?_
          | refine ParOb.wanted (by simp [Region.wanted, yielded, hd]) ?_
        go_simp
        exact ParPost.same fun _ _ => rfl
      · intro vals W hx hd
        have hW := HF.out W hx
        simp [PDeps, pdeps, Region.binds] at hd
        first
          | refine ParOb.plain rfl ?_
          | refine ParOb.wanted (by simp [Region.wanted, yielded, hd]) ?_
        go_simp
        refine Calls.mono (KRS.out W hs0) ?_
        rintro e w10 ⟨rfl, hb10⟩
        exact ⟨_, rfl, hb10, fun _ _ => rfl⟩
      · intro vals W hx hd
        have hW := HF.out W hx
        simp [PDeps, pdeps, Region.binds] at hd
        first
          | refine ParOb.plain rfl ?_
          | refine ParOb.wanted (by simp [Region.wanted, yielded, hd]) ?_
        go_simp
        exact ParPost.same fun _ _ => rfl
      · intro vals W hx hd
        have hW := HF.out W hx
        simp [PDeps, pdeps, Region.binds] at hd
        first
          | refine ParOb.plain rfl ?_
          | refine ParOb.wanted (by simp [Region.wanted, yielded, hd]) ?_
        go_simp
        exact ParPost.same fun _ _ => rfl
      · intro vals W hx hd
        have hW := HF.out W hx
        simp [PDeps, pdeps, Region.binds] at hd
        first
          | refine ParOb.plain rfl ?_
          | refine ParOb.wanted (by simp [Region.wanted, yielded, hd]) ?_
        go_simp
        exact ParPost.same fun _ _ => rfl
      · intro vals W hx hd
        have hW := HF.out W hx
        simp [PDeps, pdeps, Region.binds] at hd
        first
          | refine ParOb.plain rfl ?_
          | refine ParOb.wanted (by simp [Region.wanted, yielded, hd]) ?_
        go_simp
        exact ParPost.same fun _ _ => rfl
      · intro vals W hx hd
        have hW := HF.out W hx
        simp [PDeps, pdeps, Region.binds] at hd
        first
          | refine ParOb.plain rfl ?_
          | refine ParOb.wanted (by simp [Region.wanted, yielded, hd]) ?_
        go_simp
        exact ParPost.same fun _ _ => rfl
      · intro vals W hx hd
        have hW := HF.out W hx
        simp [PDeps, pdeps, Region.binds] at hd
        first
          | refine ParOb.plain rfl ?_
          | refine ParOb.wanted (by simp [Region.wanted, yielded, hd]) ?_
        go_simp
        exact ParPost.same fun _ _ => rfl
      · intro vals W hx hd
        have hW := HF.out W hx
        simp [PDeps, pdeps, Region.binds] at hd
        first
          | refine ParOb.plain rfl ?_
          | refine ParOb.wanted (by simp [Region.wanted, yielded, hd]) ?_
        go_simp
        exact ParPost.same fun _ _ => rfl
      · intro vals W hx hd
        have hW := HF.out W hx
        simp [PDeps, pdeps, Region.binds] at hd
        first
          | refine ParOb.plain rfl ?_
          | refine ParOb.wanted (by simp [Region.wanted, yielded, hd]) ?_
        go_simp
        exact ParPost.same fun _ _ => rfl
      · intro vals W hx hd
        have hW := HF.out W hx
        simp [PDeps, pdeps, Region.binds] at hd
        first
          | refine ParOb.plain rfl ?_
          | refine ParOb.wanted (by simp [Region.wanted, yielded, hd]) ?_
        go_simp
        exact ParPost.same fun _ _ => rfl
      · intro vals W hx hd
        have hW := HF.out W hx
        simp [PDeps, pdeps, Region.binds] at hd
        first
          | refine ParOb.plain rfl ?_
          | refine ParOb.wanted (by simp [Region.wanted, yielded, hd]) ?_
        go_simp
        refine Calls.mono (KC.out W) ?_
        rintro e w10 ⟨rfl, hb10⟩
        exact ⟨_, rfl, hb10, fun _ _ => rfl⟩
      · intro vals W hx hd
        have hW := HF.out W hx
        simp [PDeps, pdeps, Region.binds] at hd
        first
          | refine ParOb.plain rfl ?_
          | refine ParOb.wanted (by simp [Region.wanted, yielded, hd]) ?_
        go_simp
        refine Calls.mono (refsame_self K M T W) ?_
        rintro e w10 ⟨rfl, hb10⟩
        exact ⟨_, rfl, hb10, fun _ _ => rfl⟩
      · intro vals W hx hd
        have hW := HF.out W hx
        simp [PDeps, pdeps, Region.binds] at hd
        first
          | refine ParOb.plain rfl ?_
          | refine ParOb.wanted (by simp [Region.wanted, yielded, hd]) ?_
        go_simp
        exact ParPost.same fun _ _ => rfl
      · intro vals W hx hd
        have hW := HF.out W hx
        simp [PDeps, pdeps, Region.binds] at hd
        first
          | refine ParOb.plain rfl ?_
          | refine ParOb.wanted (by simp [Region.wanted, yielded, hd]) ?_
        go_simp
        exact ParPost.same fun _ _ => rfl
    intro vals W hx hf
    simp (maxSteps := 20000000) only [ParFacts, List.take_succ_cons, List.take_zero, and_true] at hf
    simp (maxSteps := 20000000) only [List.drop_succ_cons, List.drop_zero, List.take_succ_cons, List.take_zero, ParEnd, Act.put, List.setIfInBounds_toArray, List.set_cons_succ, List.set_cons_zero, hf]
    clear hf
    have HX8 := Lib.hid (Ext.trans HX7.out hx)
    have HC8 := Lib.hid (HC7.out.keep hx)
    have HD8 := Lib.hid (HD7.out.keep hx)
    clear hx HF
    obtain ⟨cc, _⟩ := HC8.out.facts
    obtain ⟨cd, _⟩ := HD8.out.facts
    rcases hok with ⟨rfl, rfl⟩ | ⟨rfl, rfl⟩
    all_goals
      go_wp2_with fail
      refine Calls.mono (refsame_self yk yn yt _) ?_
      rintro e w9 ⟨rfl, hb9⟩
      have HX9 := Lib.hid (Ext.trans HX8.out hb9)
      clear hb9
      go_wp2_with fail
      refine Calls.mono (valawake_any _ (HG.out.keep HX9.out).g) ?_
      rintro e w10 ⟨rfl, hb10⟩
      have HX10 := Lib.hid (Ext.trans HX9.out hb10)
      clear hb10
      go_wp2_with fail
      go_ret
      exact ⟨rfl, HX10.out⟩
end Go.Proofs.YtbdaebjpgdpcnaaGreatDoor

namespace Go.Proofs.YtbdaebjpgdpcnaaGreatDoor.valPrints
open Go.ChangeShapes Go.WideShapes Go.ChangeAt Go.RowKit Go.ChangeMaps printFrame
set_option maxRecDepth 100000

theorem contract (H : Type) (enc : TypeId × Value → H) (W : World) (base : Nat) (args : Array Value) (ds gs : List (DataW H)) (before : List MemPlace)
    (hval : ∀ (j : Nat) t v, Tryz.f3.params[j]? = some t → args[j]? = some v → Value.okWide Tryz.prog W .any base t v)
    (hW : DataW.Whole enc Tryz.prog Tryz.f3.params.toList Rows.valPrintsSpec.vars false W args.toList ds gs before) (hG : GlobP W) (hsz : (DataW.weightsEach Tryz.prog (Tryz.f3.params.toList ++ (OpenSpec.ofChange Rows.valPrintsSpec).bare.plain.varTypes Tryz.prog) (ds ++ gs)).all (· ≤ reachBytes) = true) :
    Calls Tryz.prog 3 args W fun e W' => ∃ v, e = .returned v ∧ Rows.valPrintsSpec.post enc Tryz.prog Tryz.f3 false true false false W args v W' := by
  have hW' := hW
  obtain ⟨p, q, hA0, hV, rfl, hfz, hnd⟩ := hW
  have hA : DataW.TrodAll enc Tryz.prog W 0 (fun _ => true) true Tryz.f3.params.toList args.toList ds p := hA0
  rw [Tryz.params3] at hA hval
  obtain ⟨rfl, rfl⟩ := trodVars_none hV
  simp only [List.append_nil] at hW'
  have hlt : ∀ x ∈ p, x.block < W.heap.size := fun x hx => by simpa using hW'.lt x hx

  obtain ⟨v0, v1, d0, d1, p0, p1, rfl, rfl, hp, h0, h1⟩ := args2 hA
  have hlaw : Calls Tryz.prog 3 #[v0, v1] W fun e w' => e = .returned (.bool true) ∧ Below W.heap.size W w' := by
    clear hW' hlt hA0 hA hp hfz hnd
    obtain ⟨c00, c01, c02, y00, y01, y02, q0, rfl, rfl, rfl, z00, z01, z02⟩ := Joins.open_agg3 Tryz.underlying23 (by kernel_rfl) (show Tryz.prog.cellsOf 23 = 3 by kernel_rfl) (hval 0 23 v0 rfl rfl) h0
    obtain ⟨k0, e00, j00, g00⟩ := DataW.trod_int Tryz.underlying3 z00
    obtain rfl := one_of e00
    obtain ⟨m0, e01, j01, g01⟩ := DataW.trod_int Tryz.underlying2 z01
    obtain rfl := one_of e01
    obtain ⟨s0, e02, j02, g02⟩ := DataW.trod_string Tryz.underlying9 z02
    obtain rfl := one_of e02
    obtain ⟨x1, rfl, rfl, rfl, w1⟩ := open_string Tryz.underlying9 (hval 1 9 v1 rfl rfl) h1
    rw [Tryz.params3] at hsz
    have hz0 : s0.size ≤ 140737488355328 := by
      have h := List.all_eq_true.1 hsz _ (DataW.weights_mem_each (j := 0) (t := 23) rfl rfl s0.data.toList.length (by simp [DataW.weights, Tryz.underlying23, DataW.weightsEach, j02]))
      have h2 : s0.data.toList.length ≤ reachBytes := by simpa using h
      have h3 := reachBytes_lt
      rw [Array.length_toList] at h2
      exact Nat.le_trans h2 (by omega)
    have hz1 : x1.size ≤ 140737488355328 := by
      have h := List.all_eq_true.1 hsz _ (DataW.weights_mem_each (j := 1) (t := 9) rfl rfl x1.data.toList.length (by simp [DataW.weights]))
      have h2 : x1.data.toList.length ≤ reachBytes := by simpa using h
      have h3 := reachBytes_lt
      rw [Array.length_toList] at h2
      exact Nat.le_trans h2 (by omega)
    exact law_prints k0 m0 s0 x1 W (inr_wf g01) hG hz0 hz1
  refine hlaw.mono fun e W' ⟨he, hb⟩ => ?_
  subst he
  exact ⟨_, rfl, _, [], _, [], p, [], hW', trodAll_mk1 (shut_bool Tryz.underlying4 _), trodAll_keep laidOut (by kernel_rfl) hA0 hb hlt, rfl, hb.frame _, fun h => by cases h⟩

theorem kIn : (Rows.valPrintsRow.inPlace == Tryz.pinned.checked.prog.inPlace 3) = true := by kernel_rfl
theorem kUn : (Rows.valPrintsRow.unfollowed == Tryz.pinned.checked.prog.unfollowed 3) = true := by kernel_rfl
theorem kRe : (Rows.valPrintsRow.recurses == Tryz.pinned.checked.prog.recurses 3) = true := by kernel_rfl
theorem kNa : (Rows.valPrintsRow.named == Tryz.pinned.checked.prog.varsNamed 3) = true := by kernel_rfl
theorem kGo : false = Rows.valPrintsRow.goesBy Tryz.pinned.checked.prog := by kernel_rfl
theorem joined : joinedFacts Tryz.pinned.checked.prog 3 Tryz.f3 (OpenSpec.ofChange Rows.valPrintsSpec).bare Rows.valPrintsRow = true := by
  unfold joinedFacts
  simp only [Bool.and_eq_true]
  exact ⟨⟨⟨⟨⟨⟨⟨⟨⟨⟨⟨⟨⟨⟨⟨⟨⟨⟨⟨⟨⟨⟨⟨⟨⟨⟨⟨⟨⟨⟨⟨by kernel_rfl, by kernel_rfl⟩, by kernel_rfl⟩, by kernel_rfl⟩, by kernel_rfl⟩, by kernel_rfl⟩, by kernel_rfl⟩, by kernel_rfl⟩, by kernel_rfl⟩, kIn⟩, kUn⟩, kRe⟩, kNa⟩, by kernel_rfl⟩, by kernel_rfl⟩, by kernel_rfl⟩, by kernel_rfl⟩, by kernel_rfl⟩, by kernel_rfl⟩, by kernel_rfl⟩, by kernel_rfl⟩, by kernel_rfl⟩, by kernel_rfl⟩, by kernel_rfl⟩, by kernel_rfl⟩, by kernel_rfl⟩, by kernel_rfl⟩, by kernel_rfl⟩, by kernel_rfl⟩, by kernel_rfl⟩, by kernel_rfl⟩, by kernel_rfl⟩

theorem reads (os : Os) {H : Type} (enc : TypeId × Value → H) : ∃ places, DataW.whole enc Tryz.prog ((World.laidAll Tryz.prog os Rows.valPrintsRow.laid).forCall (fun _ _ => 0) ⟨#[], #[.agg #[.int .i64 0, .int .i64 0, .string ⟨#[]⟩], .string ⟨#[]⟩], []⟩).memory Tryz.f3.params.toList Rows.valPrintsSpec.vars false (#[.agg #[.int .i64 0, .int .i64 0, .string ⟨#[]⟩], .string ⟨#[]⟩] : Array Value).toList 8 = some ([.agg [.lit (.int .i64 0), .lit (.int .i64 0), .lit (.string [])], .lit (.string [])], [], places) :=
  ⟨[], by kernel_rfl⟩

theorem lifted (os : Os) (started : os.Started) (H : Type) (enc : TypeId × Value → H) (F : Stop.Interp) :
    ReturnsInHanded {} Tryz.checked os 3 .any ((OpenSpec.ofChange Rows.valPrintsSpec).preRow enc Tryz.prog Tryz.f3 Rows.valPrintsRow.domain false Rows.valPrintsRow.laid) (((OpenSpec.ofChange Rows.valPrintsSpec).at F).post enc Tryz.prog Tryz.f3 false true false false) := by
  obtain ⟨places, hx⟩ := reads os enc
  refine returnsInHanded_of_row (C := Tryz.checked) (s := OpenSpec.ofChange Rows.valPrintsSpec) own started (by kernel_rfl) Tryz.func3
    (witness os #[.agg #[.int .i64 0, .int .i64 0, .string ⟨#[]⟩], .string ⟨#[]⟩] (by kernel_rfl) (OpenSpec.preRow_of_cond 8 hx (by kernel_rfl) (fun k hk => by cases hk) (by kernel_rfl) (laid_met os _))) ?_
  intro W base args ds gs before hval hW _ _ hsz hL hsh _
  exact contract H enc W base args ds gs before hval hW (glob_of hL hsh) hsz

theorem said : Rows.ValPrintsSaid :=
  OpenClaim.holds_of_cond 3 Tryz.f3 rfl rfl rfl rfl rfl rfl rfl ⟨rfl, rfl, rfl, rfl, rfl⟩ rfl rfl rfl rfl rfl (by kernel_rfl) Tryz.func3 joined
    (of_decide_eq_true (by kernel_rfl)) (by unfold Func.isWrapper; first | (rw [if_pos (by decide +kernel)]; kernel_rfl) | (rw [if_neg (by decide +kernel)]; exact ⟨rfl, rfl⟩))
    (fun os started H enc _ F => by rw [OpenClaim.pre_eq_preRow]; exact lifted os started H enc F)

theorem plain (f : FuncId) (fn : Func) (hf : Tryz.pinned.checked.prog.funcNamed Rows.valPrintsRow.func = some f) (hfn : Tryz.pinned.checked.prog.funcs[f]? = some fn) :
    true = Tryz.pinned.checked.prog.looks [] ∧ ∀ (j : Nat) t, fn.params[j]? = some t → Tryz.pinned.checked.prog.wantsStandIn t = false := by
  obtain rfl : f = 3 := Option.some.inj ((show Tryz.prog.funcNamed Rows.valPrintsRow.func = some 3 by kernel_rfl).symm.trans hf) |>.symm
  obtain rfl : fn = Tryz.f3 := (Option.some.inj (Tryz.func3.symm.trans hfn)).symm
  refine ⟨by kernel_rfl, fun j t ht => ?_⟩
  rw [Tryz.params3] at ht
  exact all_of (show #[23, 9].all (fun t => !Tryz.prog.wantsStandIn t) = true by kernel_rfl) (Array.mem_of_getElem? ht)

/-- THE CARD. -/
theorem card : Rows.ValPrintsCardSaid :=
  Claim7.holds_tied_plain_at .later [] _ _ _ _ said (fun _ h => by cases h) (by kernel_rfl) (fun _ h => by cases h) valPrints_row_tie rfl ⟨rfl, rfl⟩ (by kernel_rfl) rfl plain kGo
end Go.Proofs.YtbdaebjpgdpcnaaGreatDoor.valPrints
