/-
  Values read, by the program and by the document (val.Read, umlautref11.Read).
-/
import Derived.Test.YtbdaebjpgdpcnaaGreatDoorPrintC
namespace Go.Proofs.YtbdaebjpgdpcnaaGreatDoor
open Go.RowKit Go.Lib
set_option maxRecDepth 100000

theorem ret_v2 {t u : Tmp} {fn : Func} (h : fn.results = #[.cell t 23, .tmp u]) (tmps : Array Value) {w : World} {g : Nat} {cs : Array Value} (hc : cs.size = 3) (hp : tmps.getD t undef = .pointer (some ⟨g, 0, none⟩)) (hg : Blk w g cs 23) :
    (results fn tmps).run Tryz.prog w = .ok (.tuple #[.agg cs, tmps.getD u undef]) w := by
  have hp' : tmps[t]?.getD undef = .pointer (some ⟨g, 0, none⟩) := by simpa using hp
  have hr := run_loadVar_row w g 23 23 cs (0, 0) _ hg Tryz.underlying23 rfl (by rw [hc]; kernel_rfl)
  simp [results, h, hp', asAddr, hr]
/-- What a reader answers. -/
def rdV (c : Int × Int × List UInt8) (l : List UInt8) (bad good : Value) : Value := if prB c = l then .tuple #[vV c.1 c.2.1 ⟨c.2.2.toArray⟩, good] else .tuple #[vV 0 0 emp, bad]
theorem cl_clean (k n : Int) (t : ByteArray) (h : Cl (k, n, bsl t)) : cK k n t = k ∧ cN k n t = n ∧ cS k n t = t := by
  have hok : vOk k n t = true := by
    unfold vOk
    rcases h with ⟨h1, h2, h3⟩ | ⟨h1, h2, h3⟩ | ⟨h1, h2, h3⟩ | ⟨h1, h2⟩
    · simp only at h1 h2 h3; subst h1 h2
      rw [if_pos rfl, toList_nil.2 h3]; rfl
    · simp only at h1 h2 h3; subst h1
      rw [if_neg (by decide), if_pos rfl, toList_nil.2 h3]
      rcases h2 with rfl | rfl <;> rfl
    · simp only at h1 h2 h3; subst h1
      rw [if_neg (by decide), if_neg (by decide), if_pos rfl, toList_nil.2 h3]
    · simp only at h1 h2; subst h1 h2
      rfl
  unfold cK cN cS
  rw [hok]
  exact ⟨rfl, rfl, rfl⟩
theorem prS_cl (k n : Int) (t : ByteArray) (h : Cl (k, n, bsl t)) : prS k n t = ⟨(prB (k, n, bsl t)).toArray⟩ := by
  obtain ⟨h1, h2, h3⟩ := cl_clean k n t h
  unfold prS
  rw [h1, h2, h3]
theorem same_bytes (a b : ByteArray) : (a.toList == b.toList) = true ↔ bsl a = bsl b := by
  rw [beq_iff_eq, ByteArray.toList_eq, ByteArray.toList_eq]
  rfl
theorem word_is (s : ByteArray) (l : List UInt8) : (s.toList == l) = true ↔ bsl s = l := by
  rw [beq_iff_eq, ByteArray.toList_eq]
  rfl
theorem word_not {s : ByteArray} {l : List UInt8} (h : bsl s ≠ l) : (s.toList == l) = false := by
  rw [Bool.eq_false_iff]
  exact fun e => h ((word_is s l).1 e)
theorem replaceK_le (old new : List UInt8) (h : new.length ≤ old.length) : ∀ (k : Nat) (s : List UInt8), (Lib.replaceK old new k s).length ≤ s.length
  | 0, s => Nat.le_refl _
  | k + 1, s => by
    rw [Lib.replaceK]
    split
    · exact Nat.le_refl _
    · rename_i hi
      have hge := Lib.index_ge s old
      have hne : Lib.index s old ≠ -1 := fun e => hi (by rw [e]; rfl)
      have hr := Lib.index_room s old (by omega)
      have ih := replaceK_le old new h k (s.drop ((Lib.index s old).toNat + old.length))
      rw [List.length_drop] at ih
      rw [List.length_append, List.length_append, List.length_take]
      omega
theorem replaceAll_le (s old new : List UInt8) (h : new.length ≤ old.length) : (Lib.replaceAll s old new).length ≤ s.length := by
  unfold Lib.replaceAll Lib.replace
  split
  · exact Nat.le_refl _
  · exact replaceK_le old new h _ s
theorem mid_bytes (s : ByteArray) : bsl (s.extract 1 (s.size - 1)) = (bsl s).tail.dropLast := by
  unfold bsl
  rw [Lib.extract_data, List.dropLast_eq_take, List.drop_one, List.length_tail, Array.length_toList]
  rfl

set_option maxHeartbeats 8000000 in
theorem valread_any (s : ByteArray) (w : World) (hs : s.size ≤ 4000) (hG : ∀ W, Ext w W → GlobP W) :
    Calls Tryz.prog 9 #[.string s] w fun e w' => e = .returned (rdV (candP (bsl s)) (bsl s) (.int .i64 3) (.int .i64 0)) ∧ Below w.heap.size w w' := by
  have HG := Lib.hid hG
  have KP := Lib.hid (fun W (hW : Ext w W) => intsparse_any s W hs fun W2 h2 => hG W2 (Ext.trans hW h2))
  have hrg := intP_range (bsl s)
  have hcd : candP (bsl s) = if bsl s = nullL then (0, 0, []) else if bsl s = trueL then (1, 1, []) else if bsl s = falseL then (1, 0, []) else if (intP (bsl s)).2 = 0 then (2, (intP (bsl s)).1, []) else if 2 ≤ (bsl s).length then (3, 0, Lib.replaceAll ((bsl s).tail.dropLast) [39, 39] [39]) else (0, 0, []) := rfl
  obtain ⟨z, hz⟩ : ∃ z, z = intP (bsl s) := ⟨_, rfl⟩
  rw [← hz] at KP hrg hcd
  obtain ⟨zn, ze⟩ := z
  obtain ⟨⟨hr1, hr2⟩, hre⟩ := hrg
  simp only at hr1 hr2 hre hcd
  unfold tup2 at KP
  simp only at KP
  rw [hcd]
  clear hG hcd hz
  generalize hRV : rdV _ (bsl s) (.int .i64 3) (.int .i64 0) = RV
  by_cases w1 : bsl s = nullL
  · have b1 : (s.toList == [78, 85, 76, 76]) = true := (word_is s _).2 w1
    rw [if_pos w1, rdV, if_pos (show prB (0, 0, []) = bsl s from w1.symm)] at hRV
    clear w1
    have HRV := Lib.hid hRV
    clear hRV
    go_enter Tryz.func9, Tryz.ntmps9
    go_wp2_with fail
    refine Calls.mono (valnull_any _) ?_
    rintro e q1 ⟨rfl, hb1⟩
    rw [show vV 0 0 emp = .agg #[.int .i64 0, .int .i64 0, .string ⟨#[]⟩] from rfl]
    have HR1 := Lib.hid ((Blk.new w #[.int .i64 0, .int .i64 0, .string ⟨#[]⟩] 23 rfl).keep hb1)
    have HX1 := Lib.hid (show Below w.heap.size w q1 from Below.trans (by go_grown) (hb1.mono (by simp)))
    clear hb1
    go_wp2_with fail
    have hx1 : Below w.heap.size w (q1.alloc (.cells #[.int .i64 0, .int .i64 0, .string ⟨#[]⟩] 23)) := HX1.out.alloc HX1.out.size _
    refine Calls.mono (KP.out _ hx1) ?_
    rintro e q2 ⟨rfl, hb2⟩
    have HR := Lib.hid (((HR1.out).alloc _).keep hb2)
    have HV := Lib.hid ((Blk.new q1 #[.int .i64 0, .int .i64 0, .string ⟨#[]⟩] 23 rfl).keep hb2)
    have HX2 := Lib.hid (show Below w.heap.size w q2 from hx1.trans (hb2.mono hx1.size))
    have hqs := HX1.out.size
    have hlt1 : w.heap.size < q1.heap.size := HR1.out.lt
    have hvl := HV.out.lt
    have hrl := HR.out.lt
    obtain ⟨cr, fr⟩ := HR.out.facts
    obtain ⟨cv, fv⟩ := HV.out.facts
    clear hb2 hx1
    go_simp
    repeat (first | go_values | go_skip | go_guarded | go_step | go_upon)
    refine bodyPost_ret (ret_v2 rfl _ rfl rfl (blk3 HR.out _ _ _)) rfl ⟨by rw [← HRV.out]; rfl, below3 HX2.out (Nat.le_refl _) _ _ _⟩
  · have b1 : (s.toList == [78, 85, 76, 76]) = false := word_not w1
    rw [if_neg w1] at hRV
    clear w1
    by_cases w2 : bsl s = trueL
    · have b2 : (s.toList == [84, 82, 85, 69]) = true := (word_is s _).2 w2
      rw [if_pos w2] at hRV
      clear w2
      have HRV := Lib.hid hRV
      clear hRV
      go_enter Tryz.func9, Tryz.ntmps9
      go_wp2_with fail
      refine Calls.mono (valnull_any _) ?_
      rintro e q1 ⟨rfl, hb1⟩
      rw [show vV 0 0 emp = .agg #[.int .i64 0, .int .i64 0, .string ⟨#[]⟩] from rfl]
      have HR1 := Lib.hid ((Blk.new w #[.int .i64 0, .int .i64 0, .string ⟨#[]⟩] 23 rfl).keep hb1)
      have HX1 := Lib.hid (show Below w.heap.size w q1 from Below.trans (by go_grown) (hb1.mono (by simp)))
      clear hb1
      go_wp2_with fail
      have hx1 : Below w.heap.size w (q1.alloc (.cells #[.int .i64 0, .int .i64 0, .string ⟨#[]⟩] 23)) := HX1.out.alloc HX1.out.size _
      refine Calls.mono (KP.out _ hx1) ?_
      rintro e q2 ⟨rfl, hb2⟩
      have HR := Lib.hid (((HR1.out).alloc _).keep hb2)
      have HV := Lib.hid ((Blk.new q1 #[.int .i64 0, .int .i64 0, .string ⟨#[]⟩] 23 rfl).keep hb2)
      have HX2 := Lib.hid (show Below w.heap.size w q2 from hx1.trans (hb2.mono hx1.size))
      have hqs := HX1.out.size
      have hlt1 : w.heap.size < q1.heap.size := HR1.out.lt
      have hvl := HV.out.lt
      have hrl := HR.out.lt
      obtain ⟨cr, fr⟩ := HR.out.facts
      obtain ⟨cv, fv⟩ := HV.out.facts
      clear hb2 hx1
      go_simp
      repeat (first | go_values | go_skip | go_guarded | go_step | go_upon)
      refine Calls.mono (valbool_any true _) ?_
      rintro e q3 ⟨rfl, hb3⟩
      rw [show vV 1 (bN true) emp = .agg #[.int .i64 (1), .int .i64 (1), .string ⟨#[]⟩] from rfl]
      have HR3 := Lib.hid (HR.out.keep hb3)
      have HV3 := Lib.hid (HV.out.keep hb3)
      have HX3 := Lib.hid (show Below w.heap.size w q3 from HX2.out.trans (hb3.mono HX2.out.size))
      clear cr fr cv fv hb3
      obtain ⟨cv3, fv3⟩ := HV3.out.facts
      have hvl3 := HV3.out.lt
      go_simp
      repeat (first | go_values | go_skip | go_guarded | go_step | go_upon)
      have hcl : Cl (1, 1, bsl ⟨#[]⟩) := .inr (.inl ⟨rfl, .inr rfl, rfl⟩)
      have hx4 := below3 HX3.out hqs (.int .i64 (1)) (.int .i64 (1)) (.string ⟨#[]⟩)
      have hr4 := ((HR3.out.other (a := ⟨q1.heap.size, 0, none⟩) (by show w.heap.size ≠ q1.heap.size; omega) (.int .i64 (1))).other (a := ⟨q1.heap.size, 1, none⟩) (by show w.heap.size ≠ q1.heap.size; omega) (.int .i64 (1))).other (a := ⟨q1.heap.size, 2, none⟩) (by show w.heap.size ≠ q1.heap.size; omega) (.string ⟨#[]⟩)
      have hv4 := blk3 HV3.out (.int .i64 (1)) (.int .i64 (1)) (.string ⟨#[]⟩)
      have HX4 := Lib.hid hx4
      have HR4 := Lib.hid hr4
      have HV4 := Lib.hid hv4
      clear hx4 hr4 hv4 cv3 fv3 hvl3
      generalize (((q3.setCell ⟨q1.heap.size, 0, none⟩ (.int .i64 (1))).setCell ⟨q1.heap.size, 1, none⟩ (.int .i64 (1))).setCell ⟨q1.heap.size, 2, none⟩ (.string ⟨#[]⟩)) = W4 at HX4 HR4 HV4 ⊢
      refine Calls.mono (valprint_any (1) (1) ⟨#[]⟩ W4 (by unfold InR; decide) (Nat.zero_le _) fun W hW => HG.out W (Ext.trans HX4.out hW)) ?_
      rintro e q5 ⟨rfl, hb5⟩
      have HR5 := Lib.hid (HR4.out.keep hb5)
      have HV5 := Lib.hid (HV4.out.keep hb5)
      have HX5 := Lib.hid (show Below w.heap.size w q5 from HX4.out.trans (hb5.mono HX4.out.size))
      clear hb5
      have hvl5 := HV5.out.lt
      have hrl5 := HR5.out.lt
      obtain ⟨cr5, fr5⟩ := HR5.out.facts
      obtain ⟨cv5, fv5⟩ := HV5.out.facts
      obtain ⟨pS, hpS⟩ : ∃ pS, pS = prS (1) (1) ⟨#[]⟩ := ⟨_, rfl⟩
      rw [← hpS]
      have hpb : bsl pS = prB (1, 1, []) := by rw [hpS, prS_cl _ _ _ hcl]; rfl
      have HPb := Lib.hid hpb
      clear hcl hpS hpb
      by_cases hp : prB (1, 1, []) = bsl s
      · have e1 : (pS.toList == s.toList) = true := (same_bytes _ _).2 (HPb.out.trans hp)
        have e2 : (pS.toList != s.toList) = false := by rw [bne, e1]; rfl
        have hval := HRV.out
        rw [rdV, if_pos hp] at hval
        have HVal := Lib.hid hval
        clear hval
        clear hp
        go_simp
        repeat (first | go_values | go_skip | go_guarded | go_step | go_upon)
        refine bodyPost_ret (ret_v2 rfl _ rfl rfl (blk3 HR5.out _ _ _)) rfl ⟨by rw [← HVal.out]; rfl, below3 HX5.out (Nat.le_refl _) _ _ _⟩
      · have e1 : (pS.toList == s.toList) = false := by
          rw [Bool.eq_false_iff]
          exact fun e => hp (HPb.out.symm.trans ((same_bytes _ _).1 e))
        have e2 : (pS.toList != s.toList) = true := by rw [bne, e1]; rfl
        have hval := HRV.out
        rw [rdV, if_neg hp] at hval
        have HVal := Lib.hid hval
        clear hval
        clear hp
        go_simp
        repeat (first | go_values | go_skip | go_guarded | go_step | go_upon)
        refine Calls.mono (valnull_any _) ?_
        rintro e q6 ⟨rfl, hb6⟩
        rw [show vV 0 0 emp = .agg #[.int .i64 0, .int .i64 0, .string ⟨#[]⟩] from rfl]
        have HR6 := Lib.hid (HR5.out.keep hb6)
        have HX6 := Lib.hid (show Below w.heap.size w q6 from HX5.out.trans (hb6.mono HX5.out.size))
        clear hb6 cr5 fr5 cv5 fv5
        have hrl6 := HR6.out.lt
        obtain ⟨cr6, fr6⟩ := HR6.out.facts
        go_simp
        repeat (first | go_values | go_skip | go_guarded | go_step | go_upon)
        refine bodyPost_ret (ret_v2 rfl _ rfl rfl (blk3 HR6.out _ _ _)) rfl ⟨by rw [← HVal.out]; rfl, below3 HX6.out (Nat.le_refl _) _ _ _⟩
    · have b2 : (s.toList == [84, 82, 85, 69]) = false := word_not w2
      rw [if_neg w2] at hRV
      clear w2
      by_cases w3 : bsl s = falseL
      · have b3 : (s.toList == [70, 65, 76, 83, 69]) = true := (word_is s _).2 w3
        rw [if_pos w3] at hRV
        clear w3
        have HRV := Lib.hid hRV
        clear hRV
        go_enter Tryz.func9, Tryz.ntmps9
        go_wp2_with fail
        refine Calls.mono (valnull_any _) ?_
        rintro e q1 ⟨rfl, hb1⟩
        rw [show vV 0 0 emp = .agg #[.int .i64 0, .int .i64 0, .string ⟨#[]⟩] from rfl]
        have HR1 := Lib.hid ((Blk.new w #[.int .i64 0, .int .i64 0, .string ⟨#[]⟩] 23 rfl).keep hb1)
        have HX1 := Lib.hid (show Below w.heap.size w q1 from Below.trans (by go_grown) (hb1.mono (by simp)))
        clear hb1
        go_wp2_with fail
        have hx1 : Below w.heap.size w (q1.alloc (.cells #[.int .i64 0, .int .i64 0, .string ⟨#[]⟩] 23)) := HX1.out.alloc HX1.out.size _
        refine Calls.mono (KP.out _ hx1) ?_
        rintro e q2 ⟨rfl, hb2⟩
        have HR := Lib.hid (((HR1.out).alloc _).keep hb2)
        have HV := Lib.hid ((Blk.new q1 #[.int .i64 0, .int .i64 0, .string ⟨#[]⟩] 23 rfl).keep hb2)
        have HX2 := Lib.hid (show Below w.heap.size w q2 from hx1.trans (hb2.mono hx1.size))
        have hqs := HX1.out.size
        have hlt1 : w.heap.size < q1.heap.size := HR1.out.lt
        have hvl := HV.out.lt
        have hrl := HR.out.lt
        obtain ⟨cr, fr⟩ := HR.out.facts
        obtain ⟨cv, fv⟩ := HV.out.facts
        clear hb2 hx1
        go_simp
        repeat (first | go_values | go_skip | go_guarded | go_step | go_upon)
        refine Calls.mono (valbool_any false _) ?_
        rintro e q3 ⟨rfl, hb3⟩
        rw [show vV 1 (bN false) emp = .agg #[.int .i64 (1), .int .i64 (0), .string ⟨#[]⟩] from rfl]
        have HR3 := Lib.hid (HR.out.keep hb3)
        have HV3 := Lib.hid (HV.out.keep hb3)
        have HX3 := Lib.hid (show Below w.heap.size w q3 from HX2.out.trans (hb3.mono HX2.out.size))
        clear cr fr cv fv hb3
        obtain ⟨cv3, fv3⟩ := HV3.out.facts
        have hvl3 := HV3.out.lt
        go_simp
        repeat (first | go_values | go_skip | go_guarded | go_step | go_upon)
        have hcl : Cl (1, 0, bsl ⟨#[]⟩) := .inr (.inl ⟨rfl, .inl rfl, rfl⟩)
        have hx4 := below3 HX3.out hqs (.int .i64 (1)) (.int .i64 (0)) (.string ⟨#[]⟩)
        have hr4 := ((HR3.out.other (a := ⟨q1.heap.size, 0, none⟩) (by show w.heap.size ≠ q1.heap.size; omega) (.int .i64 (1))).other (a := ⟨q1.heap.size, 1, none⟩) (by show w.heap.size ≠ q1.heap.size; omega) (.int .i64 (0))).other (a := ⟨q1.heap.size, 2, none⟩) (by show w.heap.size ≠ q1.heap.size; omega) (.string ⟨#[]⟩)
        have hv4 := blk3 HV3.out (.int .i64 (1)) (.int .i64 (0)) (.string ⟨#[]⟩)
        have HX4 := Lib.hid hx4
        have HR4 := Lib.hid hr4
        have HV4 := Lib.hid hv4
        clear hx4 hr4 hv4 cv3 fv3 hvl3
        generalize (((q3.setCell ⟨q1.heap.size, 0, none⟩ (.int .i64 (1))).setCell ⟨q1.heap.size, 1, none⟩ (.int .i64 (0))).setCell ⟨q1.heap.size, 2, none⟩ (.string ⟨#[]⟩)) = W4 at HX4 HR4 HV4 ⊢
        refine Calls.mono (valprint_any (1) (0) ⟨#[]⟩ W4 (by unfold InR; decide) (Nat.zero_le _) fun W hW => HG.out W (Ext.trans HX4.out hW)) ?_
        rintro e q5 ⟨rfl, hb5⟩
        have HR5 := Lib.hid (HR4.out.keep hb5)
        have HV5 := Lib.hid (HV4.out.keep hb5)
        have HX5 := Lib.hid (show Below w.heap.size w q5 from HX4.out.trans (hb5.mono HX4.out.size))
        clear hb5
        have hvl5 := HV5.out.lt
        have hrl5 := HR5.out.lt
        obtain ⟨cr5, fr5⟩ := HR5.out.facts
        obtain ⟨cv5, fv5⟩ := HV5.out.facts
        obtain ⟨pS, hpS⟩ : ∃ pS, pS = prS (1) (0) ⟨#[]⟩ := ⟨_, rfl⟩
        rw [← hpS]
        have hpb : bsl pS = prB (1, 0, []) := by rw [hpS, prS_cl _ _ _ hcl]; rfl
        have HPb := Lib.hid hpb
        clear hcl hpS hpb
        by_cases hp : prB (1, 0, []) = bsl s
        · have e1 : (pS.toList == s.toList) = true := (same_bytes _ _).2 (HPb.out.trans hp)
          have e2 : (pS.toList != s.toList) = false := by rw [bne, e1]; rfl
          have hval := HRV.out
          rw [rdV, if_pos hp] at hval
          have HVal := Lib.hid hval
          clear hval
          clear hp
          go_simp
          repeat (first | go_values | go_skip | go_guarded | go_step | go_upon)
          refine bodyPost_ret (ret_v2 rfl _ rfl rfl (blk3 HR5.out _ _ _)) rfl ⟨by rw [← HVal.out]; rfl, below3 HX5.out (Nat.le_refl _) _ _ _⟩
        · have e1 : (pS.toList == s.toList) = false := by
            rw [Bool.eq_false_iff]
            exact fun e => hp (HPb.out.symm.trans ((same_bytes _ _).1 e))
          have e2 : (pS.toList != s.toList) = true := by rw [bne, e1]; rfl
          have hval := HRV.out
          rw [rdV, if_neg hp] at hval
          have HVal := Lib.hid hval
          clear hval
          clear hp
          go_simp
          repeat (first | go_values | go_skip | go_guarded | go_step | go_upon)
          refine Calls.mono (valnull_any _) ?_
          rintro e q6 ⟨rfl, hb6⟩
          rw [show vV 0 0 emp = .agg #[.int .i64 0, .int .i64 0, .string ⟨#[]⟩] from rfl]
          have HR6 := Lib.hid (HR5.out.keep hb6)
          have HX6 := Lib.hid (show Below w.heap.size w q6 from HX5.out.trans (hb6.mono HX5.out.size))
          clear hb6 cr5 fr5 cv5 fv5
          have hrl6 := HR6.out.lt
          obtain ⟨cr6, fr6⟩ := HR6.out.facts
          go_simp
          repeat (first | go_values | go_skip | go_guarded | go_step | go_upon)
          refine bodyPost_ret (ret_v2 rfl _ rfl rfl (blk3 HR6.out _ _ _)) rfl ⟨by rw [← HVal.out]; rfl, below3 HX6.out (Nat.le_refl _) _ _ _⟩
      · have b3 : (s.toList == [70, 65, 76, 83, 69]) = false := word_not w3
        rw [if_neg w3] at hRV
        clear w3
        by_cases w4 : ze = 0
        · have b4 : (ze == 0) = true := by simpa using w4
          rw [if_pos w4] at hRV
          clear w4
          have HRV := Lib.hid hRV
          clear hRV
          go_enter Tryz.func9, Tryz.ntmps9
          go_wp2_with fail
          refine Calls.mono (valnull_any _) ?_
          rintro e q1 ⟨rfl, hb1⟩
          rw [show vV 0 0 emp = .agg #[.int .i64 0, .int .i64 0, .string ⟨#[]⟩] from rfl]
          have HR1 := Lib.hid ((Blk.new w #[.int .i64 0, .int .i64 0, .string ⟨#[]⟩] 23 rfl).keep hb1)
          have HX1 := Lib.hid (show Below w.heap.size w q1 from Below.trans (by go_grown) (hb1.mono (by simp)))
          clear hb1
          go_wp2_with fail
          have hx1 : Below w.heap.size w (q1.alloc (.cells #[.int .i64 0, .int .i64 0, .string ⟨#[]⟩] 23)) := HX1.out.alloc HX1.out.size _
          refine Calls.mono (KP.out _ hx1) ?_
          rintro e q2 ⟨rfl, hb2⟩
          have HR := Lib.hid (((HR1.out).alloc _).keep hb2)
          have HV := Lib.hid ((Blk.new q1 #[.int .i64 0, .int .i64 0, .string ⟨#[]⟩] 23 rfl).keep hb2)
          have HX2 := Lib.hid (show Below w.heap.size w q2 from hx1.trans (hb2.mono hx1.size))
          have hqs := HX1.out.size
          have hlt1 : w.heap.size < q1.heap.size := HR1.out.lt
          have hvl := HV.out.lt
          have hrl := HR.out.lt
          obtain ⟨cr, fr⟩ := HR.out.facts
          obtain ⟨cv, fv⟩ := HV.out.facts
          clear hb2 hx1
          go_simp
          repeat (first | go_values | go_skip | go_guarded | go_step | go_upon)
          refine Calls.mono (valint_any zn _) ?_
          rintro e q3 ⟨rfl, hb3⟩
          rw [show vV 2 (zn) emp = .agg #[.int .i64 (2), .int .i64 (zn), .string ⟨#[]⟩] from rfl]
          have HR3 := Lib.hid (HR.out.keep hb3)
          have HV3 := Lib.hid (HV.out.keep hb3)
          have HX3 := Lib.hid (show Below w.heap.size w q3 from HX2.out.trans (hb3.mono HX2.out.size))
          clear cr fr cv fv hb3
          obtain ⟨cv3, fv3⟩ := HV3.out.facts
          have hvl3 := HV3.out.lt
          go_simp
          repeat (first | go_values | go_skip | go_guarded | go_step | go_upon)
          have hcl : Cl (2, zn, bsl ⟨#[]⟩) := .inr (.inr (.inl ⟨rfl, ⟨hr1, hr2⟩, rfl⟩))
          have hx4 := below3 HX3.out hqs (.int .i64 (2)) (.int .i64 (zn)) (.string ⟨#[]⟩)
          have hr4 := ((HR3.out.other (a := ⟨q1.heap.size, 0, none⟩) (by show w.heap.size ≠ q1.heap.size; omega) (.int .i64 (2))).other (a := ⟨q1.heap.size, 1, none⟩) (by show w.heap.size ≠ q1.heap.size; omega) (.int .i64 (zn))).other (a := ⟨q1.heap.size, 2, none⟩) (by show w.heap.size ≠ q1.heap.size; omega) (.string ⟨#[]⟩)
          have hv4 := blk3 HV3.out (.int .i64 (2)) (.int .i64 (zn)) (.string ⟨#[]⟩)
          have HX4 := Lib.hid hx4
          have HR4 := Lib.hid hr4
          have HV4 := Lib.hid hv4
          clear hx4 hr4 hv4 cv3 fv3 hvl3
          generalize (((q3.setCell ⟨q1.heap.size, 0, none⟩ (.int .i64 (2))).setCell ⟨q1.heap.size, 1, none⟩ (.int .i64 (zn))).setCell ⟨q1.heap.size, 2, none⟩ (.string ⟨#[]⟩)) = W4 at HX4 HR4 HV4 ⊢
          refine Calls.mono (valprint_any (2) (zn) ⟨#[]⟩ W4 ⟨hr1, hr2⟩ (Nat.zero_le _) fun W hW => HG.out W (Ext.trans HX4.out hW)) ?_
          rintro e q5 ⟨rfl, hb5⟩
          have HR5 := Lib.hid (HR4.out.keep hb5)
          have HV5 := Lib.hid (HV4.out.keep hb5)
          have HX5 := Lib.hid (show Below w.heap.size w q5 from HX4.out.trans (hb5.mono HX4.out.size))
          clear hb5
          have hvl5 := HV5.out.lt
          have hrl5 := HR5.out.lt
          obtain ⟨cr5, fr5⟩ := HR5.out.facts
          obtain ⟨cv5, fv5⟩ := HV5.out.facts
          obtain ⟨pS, hpS⟩ : ∃ pS, pS = prS (2) (zn) ⟨#[]⟩ := ⟨_, rfl⟩
          rw [← hpS]
          have hpb : bsl pS = prB (2, zn, []) := by rw [hpS, prS_cl _ _ _ hcl]; rfl
          have HPb := Lib.hid hpb
          clear hcl hpS hpb
          by_cases hp : prB (2, zn, []) = bsl s
          · have e1 : (pS.toList == s.toList) = true := (same_bytes _ _).2 (HPb.out.trans hp)
            have e2 : (pS.toList != s.toList) = false := by rw [bne, e1]; rfl
            have hval := HRV.out
            rw [rdV, if_pos hp] at hval
            have HVal := Lib.hid hval
            clear hval
            clear hp
            go_simp
            repeat (first | go_values | go_skip | go_guarded | go_step | go_upon)
            refine bodyPost_ret (ret_v2 rfl _ rfl rfl (blk3 HR5.out _ _ _)) rfl ⟨by rw [← HVal.out]; rfl, below3 HX5.out (Nat.le_refl _) _ _ _⟩
          · have e1 : (pS.toList == s.toList) = false := by
              rw [Bool.eq_false_iff]
              exact fun e => hp (HPb.out.symm.trans ((same_bytes _ _).1 e))
            have e2 : (pS.toList != s.toList) = true := by rw [bne, e1]; rfl
            have hval := HRV.out
            rw [rdV, if_neg hp] at hval
            have HVal := Lib.hid hval
            clear hval
            clear hp
            go_simp
            repeat (first | go_values | go_skip | go_guarded | go_step | go_upon)
            refine Calls.mono (valnull_any _) ?_
            rintro e q6 ⟨rfl, hb6⟩
            rw [show vV 0 0 emp = .agg #[.int .i64 0, .int .i64 0, .string ⟨#[]⟩] from rfl]
            have HR6 := Lib.hid (HR5.out.keep hb6)
            have HX6 := Lib.hid (show Below w.heap.size w q6 from HX5.out.trans (hb6.mono HX5.out.size))
            clear hb6 cr5 fr5 cv5 fv5
            have hrl6 := HR6.out.lt
            obtain ⟨cr6, fr6⟩ := HR6.out.facts
            go_simp
            repeat (first | go_values | go_skip | go_guarded | go_step | go_upon)
            refine bodyPost_ret (ret_v2 rfl _ rfl rfl (blk3 HR6.out _ _ _)) rfl ⟨by rw [← HVal.out]; rfl, below3 HX6.out (Nat.le_refl _) _ _ _⟩
        · have b4 : (ze == 0) = false := by simpa using w4
          rw [if_neg w4] at hRV
          clear w4
          by_cases w5 : 2 ≤ (bsl s).length
          · have b5 : 2 ≤ s.size := by rw [← bsl_length]; exact w5
            rw [if_pos w5] at hRV
            clear w5
            have HRV := Lib.hid hRV
            clear hRV
            go_enter Tryz.func9, Tryz.ntmps9
            go_wp2_with fail
            refine Calls.mono (valnull_any _) ?_
            rintro e q1 ⟨rfl, hb1⟩
            rw [show vV 0 0 emp = .agg #[.int .i64 0, .int .i64 0, .string ⟨#[]⟩] from rfl]
            have HR1 := Lib.hid ((Blk.new w #[.int .i64 0, .int .i64 0, .string ⟨#[]⟩] 23 rfl).keep hb1)
            have HX1 := Lib.hid (show Below w.heap.size w q1 from Below.trans (by go_grown) (hb1.mono (by simp)))
            clear hb1
            go_wp2_with fail
            have hx1 : Below w.heap.size w (q1.alloc (.cells #[.int .i64 0, .int .i64 0, .string ⟨#[]⟩] 23)) := HX1.out.alloc HX1.out.size _
            refine Calls.mono (KP.out _ hx1) ?_
            rintro e q2 ⟨rfl, hb2⟩
            have HR := Lib.hid (((HR1.out).alloc _).keep hb2)
            have HV := Lib.hid ((Blk.new q1 #[.int .i64 0, .int .i64 0, .string ⟨#[]⟩] 23 rfl).keep hb2)
            have HX2 := Lib.hid (show Below w.heap.size w q2 from hx1.trans (hb2.mono hx1.size))
            have hqs := HX1.out.size
            have hlt1 : w.heap.size < q1.heap.size := HR1.out.lt
            have hvl := HV.out.lt
            have hrl := HR.out.lt
            obtain ⟨cr, fr⟩ := HR.out.facts
            obtain ⟨cv, fv⟩ := HV.out.facts
            clear hb2 hx1
            go_simp
            repeat (first | go_values | go_skip | go_guarded | go_step | go_upon)
            refine Calls.mono (by
              have hsz2 : (s.extract 1 (s.size - 1)).size ≤ 4000 := by simp; omega
              have hcn := Lib.countB_le ⟨#[39, 39]⟩ (by decide) (s.extract 1 (s.size - 1)).size (s.extract 1 (s.size - 1)) (Nat.le_refl _)
              obtain ⟨m, hm, _⟩ := (HG.out q2 HX2.out).g.its
              exact Tryz.strings_ReplaceAll (s.extract 1 (s.size - 1)) ⟨#[39, 39]⟩ ⟨#[39]⟩ m q2 (by omega) hm (by decide) (by rw [show (ByteArray.mk #[39]).size = 1 from rfl]; omega)) ?_
            rintro e q0 ⟨rfl, hb0⟩
            obtain ⟨tx, htx⟩ : ∃ tx : ByteArray, tx = ⟨(Lib.replaceAll (s.extract 1 (s.size - 1)).data.toList (ByteArray.mk #[39, 39]).data.toList (ByteArray.mk #[39]).data.toList).toArray⟩ := ⟨_, rfl⟩
            rw [← htx]
            have hxl : bsl tx = Lib.replaceAll ((bsl s).tail.dropLast) [39, 39] [39] := by
              rw [← mid_bytes, htx]; rfl
            have hxs : tx.size ≤ 4000 := by
              rw [← bsl_length, hxl]
              have q := replaceAll_le ((bsl s).tail.dropLast) [39, 39] [39] (by decide)
              rw [List.length_dropLast, List.length_tail, bsl_length] at q
              omega
            rw [← hxl] at HRV
            clear htx hxl
            have HR := Lib.hid (HR.out.keep hb0)
            have HV := Lib.hid (HV.out.keep hb0)
            have HX2 := Lib.hid (show Below w.heap.size w q0 from HX2.out.trans (hb0.mono HX2.out.size))
            clear cr fr cv fv hb0 hvl hrl
            go_simp
            repeat (first | go_values | go_skip | go_guarded | go_step | go_upon)
            refine Calls.mono (valtext_any tx _) ?_
            rintro e q3 ⟨rfl, hb3⟩
            rw [show vV 3 0 tx = .agg #[.int .i64 3, .int .i64 0, .string tx] from rfl]
            have HR3 := Lib.hid (HR.out.keep hb3)
            have HV3 := Lib.hid (HV.out.keep hb3)
            have HX3 := Lib.hid (show Below w.heap.size w q3 from HX2.out.trans (hb3.mono HX2.out.size))
            clear hb3
            obtain ⟨cv3, fv3⟩ := HV3.out.facts
            have hvl3 := HV3.out.lt
            go_simp
            repeat (first | go_values | go_skip | go_guarded | go_step | go_upon)
            have hcl : Cl (3, 0, bsl tx) := .inr (.inr (.inr ⟨rfl, rfl⟩))
            have hx4 := below3 HX3.out hqs (.int .i64 (3)) (.int .i64 (0)) (.string tx)
            have hr4 := ((HR3.out.other (a := ⟨q1.heap.size, 0, none⟩) (by show w.heap.size ≠ q1.heap.size; omega) (.int .i64 (3))).other (a := ⟨q1.heap.size, 1, none⟩) (by show w.heap.size ≠ q1.heap.size; omega) (.int .i64 (0))).other (a := ⟨q1.heap.size, 2, none⟩) (by show w.heap.size ≠ q1.heap.size; omega) (.string tx)
            have hv4 := blk3 HV3.out (.int .i64 (3)) (.int .i64 (0)) (.string tx)
            have HX4 := Lib.hid hx4
            have HR4 := Lib.hid hr4
            have HV4 := Lib.hid hv4
            clear hx4 hr4 hv4 cv3 fv3 hvl3
            generalize (((q3.setCell ⟨q1.heap.size, 0, none⟩ (.int .i64 (3))).setCell ⟨q1.heap.size, 1, none⟩ (.int .i64 (0))).setCell ⟨q1.heap.size, 2, none⟩ (.string tx)) = W4 at HX4 HR4 HV4 ⊢
            refine Calls.mono (valprint_any (3) (0) tx W4 (by unfold InR; decide) hxs fun W hW => HG.out W (Ext.trans HX4.out hW)) ?_
            rintro e q5 ⟨rfl, hb5⟩
            have HR5 := Lib.hid (HR4.out.keep hb5)
            have HV5 := Lib.hid (HV4.out.keep hb5)
            have HX5 := Lib.hid (show Below w.heap.size w q5 from HX4.out.trans (hb5.mono HX4.out.size))
            clear hb5
            have hvl5 := HV5.out.lt
            have hrl5 := HR5.out.lt
            obtain ⟨cr5, fr5⟩ := HR5.out.facts
            obtain ⟨cv5, fv5⟩ := HV5.out.facts
            obtain ⟨pS, hpS⟩ : ∃ pS, pS = prS (3) (0) tx := ⟨_, rfl⟩
            rw [← hpS]
            have hpb : bsl pS = prB (3, 0, bsl tx) := by rw [hpS, prS_cl _ _ _ hcl]; rfl
            have HPb := Lib.hid hpb
            clear hcl hpS hpb
            by_cases hp : prB (3, 0, bsl tx) = bsl s
            · have e1 : (pS.toList == s.toList) = true := (same_bytes _ _).2 (HPb.out.trans hp)
              have e2 : (pS.toList != s.toList) = false := by rw [bne, e1]; rfl
              have hval := HRV.out
              rw [rdV, if_pos hp] at hval
              have HVal := Lib.hid hval
              clear hval
              clear hp
              go_simp
              repeat (first | go_values | go_skip | go_guarded | go_step | go_upon)
              refine bodyPost_ret (ret_v2 rfl _ rfl rfl (blk3 HR5.out _ _ _)) rfl ⟨by rw [← HVal.out]; rfl, below3 HX5.out (Nat.le_refl _) _ _ _⟩
            · have e1 : (pS.toList == s.toList) = false := by
                rw [Bool.eq_false_iff]
                exact fun e => hp (HPb.out.symm.trans ((same_bytes _ _).1 e))
              have e2 : (pS.toList != s.toList) = true := by rw [bne, e1]; rfl
              have hval := HRV.out
              rw [rdV, if_neg hp] at hval
              have HVal := Lib.hid hval
              clear hval
              clear hp
              go_simp
              repeat (first | go_values | go_skip | go_guarded | go_step | go_upon)
              refine Calls.mono (valnull_any _) ?_
              rintro e q6 ⟨rfl, hb6⟩
              rw [show vV 0 0 emp = .agg #[.int .i64 0, .int .i64 0, .string ⟨#[]⟩] from rfl]
              have HR6 := Lib.hid (HR5.out.keep hb6)
              have HX6 := Lib.hid (show Below w.heap.size w q6 from HX5.out.trans (hb6.mono HX5.out.size))
              clear hb6 cr5 fr5 cv5 fv5
              have hrl6 := HR6.out.lt
              obtain ⟨cr6, fr6⟩ := HR6.out.facts
              go_simp
              repeat (first | go_values | go_skip | go_guarded | go_step | go_upon)
              refine bodyPost_ret (ret_v2 rfl _ rfl rfl (blk3 HR6.out _ _ _)) rfl ⟨by rw [← HVal.out]; rfl, below3 HX6.out (Nat.le_refl _) _ _ _⟩
          · have b5 : ¬ 2 ≤ s.size := by rw [← bsl_length]; exact w5
            rw [if_neg w5] at hRV
            clear w5
            have HRV := Lib.hid hRV
            clear hRV
            go_enter Tryz.func9, Tryz.ntmps9
            go_wp2_with fail
            refine Calls.mono (valnull_any _) ?_
            rintro e q1 ⟨rfl, hb1⟩
            rw [show vV 0 0 emp = .agg #[.int .i64 0, .int .i64 0, .string ⟨#[]⟩] from rfl]
            have HR1 := Lib.hid ((Blk.new w #[.int .i64 0, .int .i64 0, .string ⟨#[]⟩] 23 rfl).keep hb1)
            have HX1 := Lib.hid (show Below w.heap.size w q1 from Below.trans (by go_grown) (hb1.mono (by simp)))
            clear hb1
            go_wp2_with fail
            have hx1 : Below w.heap.size w (q1.alloc (.cells #[.int .i64 0, .int .i64 0, .string ⟨#[]⟩] 23)) := HX1.out.alloc HX1.out.size _
            refine Calls.mono (KP.out _ hx1) ?_
            rintro e q2 ⟨rfl, hb2⟩
            have HR := Lib.hid (((HR1.out).alloc _).keep hb2)
            have HV := Lib.hid ((Blk.new q1 #[.int .i64 0, .int .i64 0, .string ⟨#[]⟩] 23 rfl).keep hb2)
            have HX2 := Lib.hid (show Below w.heap.size w q2 from hx1.trans (hb2.mono hx1.size))
            have hqs := HX1.out.size
            have hlt1 : w.heap.size < q1.heap.size := HR1.out.lt
            have hvl := HV.out.lt
            have hrl := HR.out.lt
            obtain ⟨cr, fr⟩ := HR.out.facts
            obtain ⟨cv, fv⟩ := HV.out.facts
            clear hb2 hx1
            go_simp
            repeat (first | go_values | go_skip | go_guarded | go_step | go_upon)
            have hcl : Cl (0, 0, bsl ⟨#[]⟩) := .inl ⟨rfl, rfl, rfl⟩
            have HX4 := HX2
            have HR4 := HR
            have HV4 := HV
            clear cr fr cv fv
            refine Calls.mono (valprint_any (0) (0) ⟨#[]⟩ q2 (by unfold InR; decide) (Nat.zero_le _) fun W hW => HG.out W (Ext.trans HX4.out hW)) ?_
            rintro e q5 ⟨rfl, hb5⟩
            have HR5 := Lib.hid (HR4.out.keep hb5)
            have HV5 := Lib.hid (HV4.out.keep hb5)
            have HX5 := Lib.hid (show Below w.heap.size w q5 from HX4.out.trans (hb5.mono HX4.out.size))
            clear hb5
            have hvl5 := HV5.out.lt
            have hrl5 := HR5.out.lt
            obtain ⟨cr5, fr5⟩ := HR5.out.facts
            obtain ⟨cv5, fv5⟩ := HV5.out.facts
            obtain ⟨pS, hpS⟩ : ∃ pS, pS = prS (0) (0) ⟨#[]⟩ := ⟨_, rfl⟩
            rw [← hpS]
            have hpb : bsl pS = prB (0, 0, []) := by rw [hpS, prS_cl _ _ _ hcl]; rfl
            have HPb := Lib.hid hpb
            clear hcl hpS hpb
            by_cases hp : prB (0, 0, []) = bsl s
            · have e1 : (pS.toList == s.toList) = true := (same_bytes _ _).2 (HPb.out.trans hp)
              have e2 : (pS.toList != s.toList) = false := by rw [bne, e1]; rfl
              have hval := HRV.out
              rw [rdV, if_pos hp] at hval
              have HVal := Lib.hid hval
              clear hval
              clear hp
              go_simp
              repeat (first | go_values | go_skip | go_guarded | go_step | go_upon)
              refine bodyPost_ret (ret_v2 rfl _ rfl rfl (blk3 HR5.out _ _ _)) rfl ⟨by rw [← HVal.out]; rfl, below3 HX5.out (Nat.le_refl _) _ _ _⟩
            · have e1 : (pS.toList == s.toList) = false := by
                rw [Bool.eq_false_iff]
                exact fun e => hp (HPb.out.symm.trans ((same_bytes _ _).1 e))
              have e2 : (pS.toList != s.toList) = true := by rw [bne, e1]; rfl
              have hval := HRV.out
              rw [rdV, if_neg hp] at hval
              have HVal := Lib.hid hval
              clear hval
              clear hp
              go_simp
              repeat (first | go_values | go_skip | go_guarded | go_step | go_upon)
              refine Calls.mono (valnull_any _) ?_
              rintro e q6 ⟨rfl, hb6⟩
              rw [show vV 0 0 emp = .agg #[.int .i64 0, .int .i64 0, .string ⟨#[]⟩] from rfl]
              have HR6 := Lib.hid (HR5.out.keep hb6)
              have HX6 := Lib.hid (show Below w.heap.size w q6 from HX5.out.trans (hb6.mono HX5.out.size))
              clear hb6 cr5 fr5 cv5 fv5
              have hrl6 := HR6.out.lt
              obtain ⟨cr6, fr6⟩ := HR6.out.facts
              go_simp
              repeat (first | go_values | go_skip | go_guarded | go_step | go_upon)
              refine bodyPost_ret (ret_v2 rfl _ rfl rfl (blk3 HR6.out _ _ _)) rfl ⟨by rw [← HVal.out]; rfl, below3 HX6.out (Nat.le_refl _) _ _ _⟩
set_option maxHeartbeats 8000000 in
theorem refread_any (s : ByteArray) (w : World) (hs : s.size ≤ 4000) :
    Calls Tryz.prog 10 #[.string s] w fun e w' => e = .returned (rdV (candR (bsl s)) (bsl s) (.bool false) (.bool true)) ∧ Below w.heap.size w w' := by
  have KP := Lib.hid (fun W => refparseZ_any s W hs)
  have hrg := refP_range (bsl s)
  have hcd : candR (bsl s) = if bsl s = nullL then (0, 0, []) else if bsl s = trueL then (1, 1, []) else if bsl s = falseL then (1, 0, []) else if 2 ≤ (bsl s).length ∧ (bsl s).head? = some 39 then (3, 0, uq (bsl s).tail) else if (refP (bsl s)).2 = 0 then (2, (refP (bsl s)).1, []) else (0, 0, []) := rfl
  obtain ⟨z, hz⟩ : ∃ z, z = refP (bsl s) := ⟨_, rfl⟩
  rw [← hz] at KP hrg hcd
  obtain ⟨zn, ze⟩ := z
  obtain ⟨hr1, hr2⟩ := hrg
  simp only at hr1 hr2 hcd
  unfold tup2 at KP
  simp only at KP
  rw [hcd]
  clear hcd hz
  generalize hRV : rdV _ (bsl s) (.bool false) (.bool true) = RV
  by_cases w1 : bsl s = nullL
  · have b1 : (s.toList == [78, 85, 76, 76]) = true := (word_is s _).2 w1
    rw [if_pos w1] at hRV
    clear w1
    have HRV := Lib.hid hRV
    clear hRV
    have hr0 := (Blk.new w #[.int .i64 0, .int .i64 0, .string ⟨#[]⟩] 23 rfl).alloc (.cells #[.int .i64 0, .int .i64 0, .string ⟨#[]⟩] 23)
    have hv0 := Blk.new (w.alloc (.cells #[.int .i64 0, .int .i64 0, .string ⟨#[]⟩] 23)) #[.int .i64 0, .int .i64 0, .string ⟨#[]⟩] 23 (n := w.heap.size + 1) (by simp)
    have hx0 : Below w.heap.size w ((w.alloc (.cells #[.int .i64 0, .int .i64 0, .string ⟨#[]⟩] 23)).alloc (.cells #[.int .i64 0, .int .i64 0, .string ⟨#[]⟩] 23)) := by go_grown
    have HR0 := Lib.hid hr0
    have HV0 := Lib.hid hv0
    have HX0 := Lib.hid hx0
    clear hr0 hv0 hx0
    go_enter Tryz.func10, Tryz.ntmps10
    go_wp2_with fail
    generalize ((w.alloc (.cells #[.int .i64 0, .int .i64 0, .string ⟨#[]⟩] 23)).alloc (.cells #[.int .i64 0, .int .i64 0, .string ⟨#[]⟩] 23)) = W0 at HR0 HV0 HX0 ⊢
    have hcl : Cl (0, 0, bsl ⟨#[]⟩) := .inl ⟨rfl, rfl, rfl⟩
    refine Calls.mono (refprint_any (0) (0) ⟨#[]⟩ W0 (by unfold InR; decide) (Nat.zero_le _)) ?_
    rintro e q5 ⟨rfl, hb5⟩
    have HR5 := Lib.hid (HR0.out.keep hb5)
    have HV5 := Lib.hid (HV0.out.keep hb5)
    have HX5 := Lib.hid (show Below w.heap.size w q5 from HX0.out.trans (hb5.mono HX0.out.size))
    clear hb5
    have hvl5 := HV5.out.lt
    have hrl5 := HR5.out.lt
    obtain ⟨cr5, fr5⟩ := HR5.out.facts
    obtain ⟨cv5, fv5⟩ := HV5.out.facts
    obtain ⟨pS, hpS⟩ : ∃ pS, pS = prS (0) (0) ⟨#[]⟩ := ⟨_, rfl⟩
    rw [← hpS]
    have hpb : bsl pS = prB (0, 0, []) := by rw [hpS, prS_cl _ _ _ hcl]; rfl
    have HPb := Lib.hid hpb
    clear hcl hpS hpb
    by_cases hp : prB (0, 0, []) = bsl s
    · have e1 : (pS.toList == s.toList) = true := (same_bytes _ _).2 (HPb.out.trans hp)
      have e2 : (pS.toList != s.toList) = false := by rw [bne, e1]; rfl
      have hval := HRV.out
      rw [rdV, if_pos hp] at hval
      have HVal := Lib.hid hval
      clear hval
      clear hp
      go_simp
      repeat (first | go_values | go_skip | go_guarded | go_step | go_upon)
      refine bodyPost_ret (ret_v2 rfl _ rfl rfl (blk3 HR5.out _ _ _)) rfl ⟨by rw [← HVal.out]; rfl, below3 HX5.out (Nat.le_refl _) _ _ _⟩
    · have e1 : (pS.toList == s.toList) = false := by
        rw [Bool.eq_false_iff]
        exact fun e => hp (HPb.out.symm.trans ((same_bytes _ _).1 e))
      have e2 : (pS.toList != s.toList) = true := by rw [bne, e1]; rfl
      have hval := HRV.out
      rw [rdV, if_neg hp] at hval
      have HVal := Lib.hid hval
      clear hval
      clear hp
      go_simp
      repeat (first | go_values | go_skip | go_guarded | go_step | go_upon)
      refine bodyPost_ret (ret_v2 rfl _ rfl rfl (blk3 HR5.out _ _ _)) rfl ⟨by rw [← HVal.out]; rfl, below3 HX5.out (Nat.le_refl _) _ _ _⟩
  · have b1 : (s.toList == [78, 85, 76, 76]) = false := word_not w1
    have HW1 := Lib.hid w1
    rw [if_neg w1] at hRV
    clear w1
    by_cases w2 : bsl s = trueL
    · have b2 : (s.toList == [84, 82, 85, 69]) = true := (word_is s _).2 w2
      rw [if_pos w2] at hRV
      clear w2
      have HRV := Lib.hid hRV
      clear hRV
      have hr0 := (Blk.new w #[.int .i64 0, .int .i64 0, .string ⟨#[]⟩] 23 rfl).alloc (.cells #[.int .i64 0, .int .i64 0, .string ⟨#[]⟩] 23)
      have hv0 := Blk.new (w.alloc (.cells #[.int .i64 0, .int .i64 0, .string ⟨#[]⟩] 23)) #[.int .i64 0, .int .i64 0, .string ⟨#[]⟩] 23 (n := w.heap.size + 1) (by simp)
      have hx0 : Below w.heap.size w ((w.alloc (.cells #[.int .i64 0, .int .i64 0, .string ⟨#[]⟩] 23)).alloc (.cells #[.int .i64 0, .int .i64 0, .string ⟨#[]⟩] 23)) := by go_grown
      have HR0 := Lib.hid hr0
      have HV0 := Lib.hid hv0
      have HX0 := Lib.hid hx0
      clear hr0 hv0 hx0
      go_enter Tryz.func10, Tryz.ntmps10
      go_wp2_with fail
      generalize ((w.alloc (.cells #[.int .i64 0, .int .i64 0, .string ⟨#[]⟩] 23)).alloc (.cells #[.int .i64 0, .int .i64 0, .string ⟨#[]⟩] 23)) = W0 at HR0 HV0 HX0 ⊢
      refine Calls.mono (refbool_any true _) ?_
      rintro e q3 ⟨rfl, hb3⟩
      rw [show vV 1 (bN true) emp = .agg #[.int .i64 1, .int .i64 1, .string ⟨#[]⟩] from rfl]
      have HR3 := Lib.hid (HR0.out.keep hb3)
      have HV3 := Lib.hid (HV0.out.keep hb3)
      have HX3 := Lib.hid (show Below w.heap.size w q3 from HX0.out.trans (hb3.mono HX0.out.size))
      clear hb3
      obtain ⟨cv3, fv3⟩ := HV3.out.facts
      have hvl3 := HV3.out.lt
      go_simp
      repeat (first | go_values | go_skip | go_guarded | go_step | go_upon)
      have hcl : Cl (1, 1, bsl ⟨#[]⟩) := .inr (.inl ⟨rfl, .inr rfl, rfl⟩)
      have hx4 := below3 HX3.out (Nat.le_succ _) (.int .i64 (1)) (.int .i64 (1)) (.string ⟨#[]⟩)
      have hr4 := ((HR3.out.other (a := ⟨w.heap.size + 1, 0, none⟩) (by show w.heap.size ≠ w.heap.size + 1; omega) (.int .i64 (1))).other (a := ⟨w.heap.size + 1, 1, none⟩) (by show w.heap.size ≠ w.heap.size + 1; omega) (.int .i64 (1))).other (a := ⟨w.heap.size + 1, 2, none⟩) (by show w.heap.size ≠ w.heap.size + 1; omega) (.string ⟨#[]⟩)
      have hv4 := blk3 HV3.out (.int .i64 (1)) (.int .i64 (1)) (.string ⟨#[]⟩)
      have HX4 := Lib.hid hx4
      have HR4 := Lib.hid hr4
      have HV4 := Lib.hid hv4
      clear hx4 hr4 hv4 cv3 fv3 hvl3
      generalize (((q3.setCell ⟨w.heap.size + 1, 0, none⟩ (.int .i64 (1))).setCell ⟨w.heap.size + 1, 1, none⟩ (.int .i64 (1))).setCell ⟨w.heap.size + 1, 2, none⟩ (.string ⟨#[]⟩)) = W4 at HX4 HR4 HV4 ⊢
      refine Calls.mono (refprint_any (1) (1) ⟨#[]⟩ W4 (by unfold InR; decide) (Nat.zero_le _)) ?_
      rintro e q5 ⟨rfl, hb5⟩
      have HR5 := Lib.hid (HR4.out.keep hb5)
      have HV5 := Lib.hid (HV4.out.keep hb5)
      have HX5 := Lib.hid (show Below w.heap.size w q5 from HX4.out.trans (hb5.mono HX4.out.size))
      clear hb5
      have hvl5 := HV5.out.lt
      have hrl5 := HR5.out.lt
      obtain ⟨cr5, fr5⟩ := HR5.out.facts
      obtain ⟨cv5, fv5⟩ := HV5.out.facts
      obtain ⟨pS, hpS⟩ : ∃ pS, pS = prS (1) (1) ⟨#[]⟩ := ⟨_, rfl⟩
      rw [← hpS]
      have hpb : bsl pS = prB (1, 1, []) := by rw [hpS, prS_cl _ _ _ hcl]; rfl
      have HPb := Lib.hid hpb
      clear hcl hpS hpb
      by_cases hp : prB (1, 1, []) = bsl s
      · have e1 : (pS.toList == s.toList) = true := (same_bytes _ _).2 (HPb.out.trans hp)
        have e2 : (pS.toList != s.toList) = false := by rw [bne, e1]; rfl
        have hval := HRV.out
        rw [rdV, if_pos hp] at hval
        have HVal := Lib.hid hval
        clear hval
        clear hp
        go_simp
        repeat (first | go_values | go_skip | go_guarded | go_step | go_upon)
        refine bodyPost_ret (ret_v2 rfl _ rfl rfl (blk3 HR5.out _ _ _)) rfl ⟨by rw [← HVal.out]; rfl, below3 HX5.out (Nat.le_refl _) _ _ _⟩
      · have e1 : (pS.toList == s.toList) = false := by
          rw [Bool.eq_false_iff]
          exact fun e => hp (HPb.out.symm.trans ((same_bytes _ _).1 e))
        have e2 : (pS.toList != s.toList) = true := by rw [bne, e1]; rfl
        have hval := HRV.out
        rw [rdV, if_neg hp] at hval
        have HVal := Lib.hid hval
        clear hval
        clear hp
        go_simp
        repeat (first | go_values | go_skip | go_guarded | go_step | go_upon)
        refine bodyPost_ret (ret_v2 rfl _ rfl rfl (blk3 HR5.out _ _ _)) rfl ⟨by rw [← HVal.out]; rfl, below3 HX5.out (Nat.le_refl _) _ _ _⟩
    · have b2 : (s.toList == [84, 82, 85, 69]) = false := word_not w2
      rw [if_neg w2] at hRV
      clear w2
      by_cases w3 : bsl s = falseL
      · have b3 : (s.toList == [70, 65, 76, 83, 69]) = true := (word_is s _).2 w3
        rw [if_pos w3] at hRV
        clear w3
        have HRV := Lib.hid hRV
        clear hRV
        have hr0 := (Blk.new w #[.int .i64 0, .int .i64 0, .string ⟨#[]⟩] 23 rfl).alloc (.cells #[.int .i64 0, .int .i64 0, .string ⟨#[]⟩] 23)
        have hv0 := Blk.new (w.alloc (.cells #[.int .i64 0, .int .i64 0, .string ⟨#[]⟩] 23)) #[.int .i64 0, .int .i64 0, .string ⟨#[]⟩] 23 (n := w.heap.size + 1) (by simp)
        have hx0 : Below w.heap.size w ((w.alloc (.cells #[.int .i64 0, .int .i64 0, .string ⟨#[]⟩] 23)).alloc (.cells #[.int .i64 0, .int .i64 0, .string ⟨#[]⟩] 23)) := by go_grown
        have HR0 := Lib.hid hr0
        have HV0 := Lib.hid hv0
        have HX0 := Lib.hid hx0
        clear hr0 hv0 hx0
        go_enter Tryz.func10, Tryz.ntmps10
        go_wp2_with fail
        generalize ((w.alloc (.cells #[.int .i64 0, .int .i64 0, .string ⟨#[]⟩] 23)).alloc (.cells #[.int .i64 0, .int .i64 0, .string ⟨#[]⟩] 23)) = W0 at HR0 HV0 HX0 ⊢
        refine Calls.mono (refbool_any false _) ?_
        rintro e q3 ⟨rfl, hb3⟩
        rw [show vV 1 (bN false) emp = .agg #[.int .i64 1, .int .i64 0, .string ⟨#[]⟩] from rfl]
        have HR3 := Lib.hid (HR0.out.keep hb3)
        have HV3 := Lib.hid (HV0.out.keep hb3)
        have HX3 := Lib.hid (show Below w.heap.size w q3 from HX0.out.trans (hb3.mono HX0.out.size))
        clear hb3
        obtain ⟨cv3, fv3⟩ := HV3.out.facts
        have hvl3 := HV3.out.lt
        go_simp
        repeat (first | go_values | go_skip | go_guarded | go_step | go_upon)
        have hcl : Cl (1, 0, bsl ⟨#[]⟩) := .inr (.inl ⟨rfl, .inl rfl, rfl⟩)
        have hx4 := below3 HX3.out (Nat.le_succ _) (.int .i64 (1)) (.int .i64 (0)) (.string ⟨#[]⟩)
        have hr4 := ((HR3.out.other (a := ⟨w.heap.size + 1, 0, none⟩) (by show w.heap.size ≠ w.heap.size + 1; omega) (.int .i64 (1))).other (a := ⟨w.heap.size + 1, 1, none⟩) (by show w.heap.size ≠ w.heap.size + 1; omega) (.int .i64 (0))).other (a := ⟨w.heap.size + 1, 2, none⟩) (by show w.heap.size ≠ w.heap.size + 1; omega) (.string ⟨#[]⟩)
        have hv4 := blk3 HV3.out (.int .i64 (1)) (.int .i64 (0)) (.string ⟨#[]⟩)
        have HX4 := Lib.hid hx4
        have HR4 := Lib.hid hr4
        have HV4 := Lib.hid hv4
        clear hx4 hr4 hv4 cv3 fv3 hvl3
        generalize (((q3.setCell ⟨w.heap.size + 1, 0, none⟩ (.int .i64 (1))).setCell ⟨w.heap.size + 1, 1, none⟩ (.int .i64 (0))).setCell ⟨w.heap.size + 1, 2, none⟩ (.string ⟨#[]⟩)) = W4 at HX4 HR4 HV4 ⊢
        refine Calls.mono (refprint_any (1) (0) ⟨#[]⟩ W4 (by unfold InR; decide) (Nat.zero_le _)) ?_
        rintro e q5 ⟨rfl, hb5⟩
        have HR5 := Lib.hid (HR4.out.keep hb5)
        have HV5 := Lib.hid (HV4.out.keep hb5)
        have HX5 := Lib.hid (show Below w.heap.size w q5 from HX4.out.trans (hb5.mono HX4.out.size))
        clear hb5
        have hvl5 := HV5.out.lt
        have hrl5 := HR5.out.lt
        obtain ⟨cr5, fr5⟩ := HR5.out.facts
        obtain ⟨cv5, fv5⟩ := HV5.out.facts
        obtain ⟨pS, hpS⟩ : ∃ pS, pS = prS (1) (0) ⟨#[]⟩ := ⟨_, rfl⟩
        rw [← hpS]
        have hpb : bsl pS = prB (1, 0, []) := by rw [hpS, prS_cl _ _ _ hcl]; rfl
        have HPb := Lib.hid hpb
        clear hcl hpS hpb
        by_cases hp : prB (1, 0, []) = bsl s
        · have e1 : (pS.toList == s.toList) = true := (same_bytes _ _).2 (HPb.out.trans hp)
          have e2 : (pS.toList != s.toList) = false := by rw [bne, e1]; rfl
          have hval := HRV.out
          rw [rdV, if_pos hp] at hval
          have HVal := Lib.hid hval
          clear hval
          clear hp
          go_simp
          repeat (first | go_values | go_skip | go_guarded | go_step | go_upon)
          refine bodyPost_ret (ret_v2 rfl _ rfl rfl (blk3 HR5.out _ _ _)) rfl ⟨by rw [← HVal.out]; rfl, below3 HX5.out (Nat.le_refl _) _ _ _⟩
        · have e1 : (pS.toList == s.toList) = false := by
            rw [Bool.eq_false_iff]
            exact fun e => hp (HPb.out.symm.trans ((same_bytes _ _).1 e))
          have e2 : (pS.toList != s.toList) = true := by rw [bne, e1]; rfl
          have hval := HRV.out
          rw [rdV, if_neg hp] at hval
          have HVal := Lib.hid hval
          clear hval
          clear hp
          go_simp
          repeat (first | go_values | go_skip | go_guarded | go_step | go_upon)
          refine bodyPost_ret (ret_v2 rfl _ rfl rfl (blk3 HR5.out _ _ _)) rfl ⟨by rw [← HVal.out]; rfl, below3 HX5.out (Nat.le_refl _) _ _ _⟩
      · have b3 : (s.toList == [70, 65, 76, 83, 69]) = false := word_not w3
        rw [if_neg w3] at hRV
        clear w3
        by_cases w4 : 2 ≤ (bsl s).length ∧ (bsl s).head? = some 39
        · rw [if_pos w4] at hRV
          obtain ⟨w5, w6⟩ := w4
          have b5 : 2 ≤ s.size := by rw [← bsl_length]; exact w5
          have hc0 : (s[0]'(by omega)) = 39 := by
            have := bsl_get s 0 (by omega)
            rw [← List.head?_eq_getElem?, w6] at this
            exact (Option.some.inj this).symm
          have b6 : (((s[0]'(by omega)).toNat : Int) == 39) = true := by rw [hc0]; rfl
          clear w5 w6 hc0
          have HRV := Lib.hid hRV
          clear hRV
          have hr0 := (Blk.new w #[.int .i64 0, .int .i64 0, .string ⟨#[]⟩] 23 rfl).alloc (.cells #[.int .i64 0, .int .i64 0, .string ⟨#[]⟩] 23)
          have hv0 := Blk.new (w.alloc (.cells #[.int .i64 0, .int .i64 0, .string ⟨#[]⟩] 23)) #[.int .i64 0, .int .i64 0, .string ⟨#[]⟩] 23 (n := w.heap.size + 1) (by simp)
          have hx0 : Below w.heap.size w ((w.alloc (.cells #[.int .i64 0, .int .i64 0, .string ⟨#[]⟩] 23)).alloc (.cells #[.int .i64 0, .int .i64 0, .string ⟨#[]⟩] 23)) := by go_grown
          have HR0 := Lib.hid hr0
          have HV0 := Lib.hid hv0
          have HX0 := Lib.hid hx0
          clear hr0 hv0 hx0
          go_enter Tryz.func10, Tryz.ntmps10
          go_wp2_with fail
          generalize ((w.alloc (.cells #[.int .i64 0, .int .i64 0, .string ⟨#[]⟩] 23)).alloc (.cells #[.int .i64 0, .int .i64 0, .string ⟨#[]⟩] 23)) = W0 at HR0 HV0 HX0 ⊢
          go_loop [5, 6] (fun t i => ∃ (j : Nat) (a : ByteArray), j ≤ s.size ∧ i = .int .i64 j ∧ t = .string a ∧ a.size ≤ j ∧ uq (bsl s).tail = bsl a ++ uq ((bsl s).drop j)) (fun _ i => s.size - (intOf i).toNat)
          case atStart => exact ⟨1, ⟨#[]⟩, by omega, rfl, rfl, Nat.zero_le _, by rw [List.drop_one]; rfl⟩
          case round =>
            obtain ⟨j, a, hj, rfl, rfl, haj, hq⟩ := hrel
            have HQ := Lib.hid hq
            clear hq
            by_cases hlt : j + 1 < s.size
            · have hltI : (j : Int) < (s.size : Int) - 1 := by omega
              have hd1 := bsl_dropZ s j (by omega)
              have hd2 := bsl_dropZ s (j + 1) hlt
              rw [hd2] at hd1
              have HD := Lib.hid hd1
              have HD2 := Lib.hid hd2
              have hx1 := ext1 s j (by omega)
              have hx2 := ext1 s (j + 1) hlt
              clear hd1 hd2
              have hjs : j < s.size := by omega
              by_cases h39 : (s[j]'(by omega)) = 39
              · have e39 : (((s[j]'(by omega)).toNat : Int) == 39) = true := by rw [h39]; rfl
                have H39 := Lib.hid h39
                clear h39 hx1
                go_wp2_with fail
                go_round
                case rel =>
                  refine ⟨j + 2, a ++ ⟨#[s[j + 1]'hlt]⟩, by omega, by go_num, rfl, by rw [ByteArray.size_append]; show a.size + 1 ≤ j + 2; omega, ?_⟩
                  rw [HQ.out, HD.out, uq, if_pos H39.out]
                  simp [bsl]
                case measure => simp [intOf]; omega
              · have e39 : (((s[j]'(by omega)).toNat : Int) == 39) = false := by
                  rw [beq_eq_false_iff_ne]
                  intro h
                  exact h39 (by rw [← UInt8.toNat_inj]; exact (by omega : (s[j]'(by omega)).toNat = 39))
                have H39 := Lib.hid h39
                clear h39 hx2
                go_wp2_with fail
                go_round
                case rel =>
                  refine ⟨j + 1, a ++ ⟨#[s[j]'hjs]⟩, by omega, by go_num, rfl, by rw [ByteArray.size_append]; show a.size + 1 ≤ j + 1; omega, ?_⟩
                  rw [HQ.out, HD.out, HD2.out, uq, if_neg H39.out]
                  simp [bsl]
                case measure => simp [intOf]; omega
            · have hltI : ¬ (j : Int) < (s.size : Int) - 1 := by omega
              have hend : uq ((bsl s).drop j) = [] := by
                cases hdj : (bsl s).drop j with
                | nil => rfl
                | cons x r =>
                  cases r with
                  | nil => rfl
                  | cons y r =>
                    have := congrArg List.length hdj
                    rw [List.length_drop, bsl_length] at this
                    simp at this
                    omega
              have hua : uq (bsl s).tail = bsl a := by rw [HQ.out, hend, List.append_nil]
              rw [hua] at HRV
              clear hend hua
              go_wp2_with fail
              refine Calls.mono (reftextv_any a _) ?_
              rintro e q3 ⟨rfl, hb3⟩
              rw [show vV 3 0 a = .agg #[.int .i64 3, .int .i64 0, .string a] from rfl]
              have HR3 := Lib.hid (HR0.out.keep hb3)
              have HV3 := Lib.hid (HV0.out.keep hb3)
              have HX3 := Lib.hid (show Below w.heap.size w q3 from HX0.out.trans (hb3.mono HX0.out.size))
              clear hb3
              obtain ⟨cv3, fv3⟩ := HV3.out.facts
              have hvl3 := HV3.out.lt
              go_simp
              repeat (first | go_values | go_skip | go_guarded | go_step | go_upon)
              have hcl : Cl (3, 0, bsl a) := .inr (.inr (.inr ⟨rfl, rfl⟩))
              have hx4 := below3 HX3.out (Nat.le_succ _) (.int .i64 (3)) (.int .i64 (0)) (.string a)
              have hr4 := ((HR3.out.other (a := ⟨w.heap.size + 1, 0, none⟩) (by show w.heap.size ≠ w.heap.size + 1; omega) (.int .i64 (3))).other (a := ⟨w.heap.size + 1, 1, none⟩) (by show w.heap.size ≠ w.heap.size + 1; omega) (.int .i64 (0))).other (a := ⟨w.heap.size + 1, 2, none⟩) (by show w.heap.size ≠ w.heap.size + 1; omega) (.string a)
              have hv4 := blk3 HV3.out (.int .i64 (3)) (.int .i64 (0)) (.string a)
              have HX4 := Lib.hid hx4
              have HR4 := Lib.hid hr4
              have HV4 := Lib.hid hv4
              clear hx4 hr4 hv4 cv3 fv3 hvl3
              generalize (((q3.setCell ⟨w.heap.size + 1, 0, none⟩ (.int .i64 (3))).setCell ⟨w.heap.size + 1, 1, none⟩ (.int .i64 (0))).setCell ⟨w.heap.size + 1, 2, none⟩ (.string a)) = W4 at HX4 HR4 HV4 ⊢
              refine Calls.mono (refprint_any (3) (0) a W4 (by unfold InR; decide) (by omega)) ?_
              rintro e q5 ⟨rfl, hb5⟩
              have HR5 := Lib.hid (HR4.out.keep hb5)
              have HV5 := Lib.hid (HV4.out.keep hb5)
              have HX5 := Lib.hid (show Below w.heap.size w q5 from HX4.out.trans (hb5.mono HX4.out.size))
              clear hb5
              have hvl5 := HV5.out.lt
              have hrl5 := HR5.out.lt
              obtain ⟨cr5, fr5⟩ := HR5.out.facts
              obtain ⟨cv5, fv5⟩ := HV5.out.facts
              obtain ⟨pS, hpS⟩ : ∃ pS, pS = prS (3) (0) a := ⟨_, rfl⟩
              rw [← hpS]
              have hpb : bsl pS = prB (3, 0, bsl a) := by rw [hpS, prS_cl _ _ _ hcl]; rfl
              have HPb := Lib.hid hpb
              clear hcl hpS hpb
              by_cases hp : prB (3, 0, bsl a) = bsl s
              · have e1 : (pS.toList == s.toList) = true := (same_bytes _ _).2 (HPb.out.trans hp)
                have e2 : (pS.toList != s.toList) = false := by rw [bne, e1]; rfl
                have hval := HRV.out
                rw [rdV, if_pos hp] at hval
                have HVal := Lib.hid hval
                clear hval
                clear hp
                go_simp
                repeat (first | go_values | go_skip | go_guarded | go_step | go_upon)
                refine bodyPost_ret (ret_v2 rfl _ rfl rfl (blk3 HR5.out _ _ _)) rfl ⟨by rw [← HVal.out]; rfl, below3 HX5.out (Nat.le_refl _) _ _ _⟩
              · have e1 : (pS.toList == s.toList) = false := by
                  rw [Bool.eq_false_iff]
                  exact fun e => hp (HPb.out.symm.trans ((same_bytes _ _).1 e))
                have e2 : (pS.toList != s.toList) = true := by rw [bne, e1]; rfl
                have hval := HRV.out
                rw [rdV, if_neg hp] at hval
                have HVal := Lib.hid hval
                clear hval
                clear hp
                go_simp
                repeat (first | go_values | go_skip | go_guarded | go_step | go_upon)
                refine bodyPost_ret (ret_v2 rfl _ rfl rfl (blk3 HR5.out _ _ _)) rfl ⟨by rw [← HVal.out]; rfl, below3 HX5.out (Nat.le_refl _) _ _ _⟩
        · rw [if_neg w4] at hRV
          have HW4 := Lib.hid w4
          clear w4
          by_cases w7 : ze = 0
          · have b7 : (ze == 0) = true := by simpa using w7
            have b8 : (ze != 0) = false := by rw [bne, b7]; rfl
            rw [if_pos w7] at hRV
            clear w7
            have hq : (∀ h : 2 ≤ s.size, (((s[0]'(by omega)).toNat : Int) == 39) = false) := fun h => by
              rw [beq_eq_false_iff_ne]
              intro e
              refine HW4.out ⟨by rw [bsl_length]; exact h, ?_⟩
              rw [List.head?_eq_getElem?, bsl_get s 0 (by omega)]
              congr 1
              rw [← UInt8.toNat_inj]
              exact (by omega : (s[0]'(by omega)).toNat = 39)
            rcases Nat.lt_or_ge s.size 2 with b5 | b5
            · have b5n : ¬ 2 ≤ s.size := by omega
              clear hq b5
              have HRV := Lib.hid hRV
              clear hRV
              have hr0 := (Blk.new w #[.int .i64 0, .int .i64 0, .string ⟨#[]⟩] 23 rfl).alloc (.cells #[.int .i64 0, .int .i64 0, .string ⟨#[]⟩] 23)
              have hv0 := Blk.new (w.alloc (.cells #[.int .i64 0, .int .i64 0, .string ⟨#[]⟩] 23)) #[.int .i64 0, .int .i64 0, .string ⟨#[]⟩] 23 (n := w.heap.size + 1) (by simp)
              have hx0 : Below w.heap.size w ((w.alloc (.cells #[.int .i64 0, .int .i64 0, .string ⟨#[]⟩] 23)).alloc (.cells #[.int .i64 0, .int .i64 0, .string ⟨#[]⟩] 23)) := by go_grown
              have HR0 := Lib.hid hr0
              have HV0 := Lib.hid hv0
              have HX0 := Lib.hid hx0
              clear hr0 hv0 hx0
              go_enter Tryz.func10, Tryz.ntmps10
              go_wp2_with fail
              generalize ((w.alloc (.cells #[.int .i64 0, .int .i64 0, .string ⟨#[]⟩] 23)).alloc (.cells #[.int .i64 0, .int .i64 0, .string ⟨#[]⟩] 23)) = W0 at HR0 HV0 HX0 ⊢
              refine Calls.mono (KP.out _) ?_
              rintro e q1 ⟨rfl, rfl⟩
              have hrl0 := HR0.out.lt
              obtain ⟨cr0, fr0⟩ := HR0.out.facts
              go_simp
              repeat (first | go_values | go_skip | go_guarded | go_step | go_upon)
              refine Calls.mono (refint_any zn _) ?_
              rintro e q3 ⟨rfl, hb3⟩
              rw [show vV 2 zn emp = .agg #[.int .i64 2, .int .i64 zn, .string ⟨#[]⟩] from rfl]
              have HR3 := Lib.hid (HR0.out.keep hb3)
              have HV3 := Lib.hid (HV0.out.keep hb3)
              have HX3 := Lib.hid (show Below w.heap.size w q3 from HX0.out.trans (hb3.mono HX0.out.size))
              clear hb3
              obtain ⟨cv3, fv3⟩ := HV3.out.facts
              have hvl3 := HV3.out.lt
              go_simp
              repeat (first | go_values | go_skip | go_guarded | go_step | go_upon)
              have hcl : Cl (2, zn, bsl ⟨#[]⟩) := .inr (.inr (.inl ⟨rfl, ⟨hr1, hr2⟩, rfl⟩))
              have hx4 := below3 HX3.out (Nat.le_succ _) (.int .i64 (2)) (.int .i64 (zn)) (.string ⟨#[]⟩)
              have hr4 := ((HR3.out.other (a := ⟨w.heap.size + 1, 0, none⟩) (by show w.heap.size ≠ w.heap.size + 1; omega) (.int .i64 (2))).other (a := ⟨w.heap.size + 1, 1, none⟩) (by show w.heap.size ≠ w.heap.size + 1; omega) (.int .i64 (zn))).other (a := ⟨w.heap.size + 1, 2, none⟩) (by show w.heap.size ≠ w.heap.size + 1; omega) (.string ⟨#[]⟩)
              have hv4 := blk3 HV3.out (.int .i64 (2)) (.int .i64 (zn)) (.string ⟨#[]⟩)
              have HX4 := Lib.hid hx4
              have HR4 := Lib.hid hr4
              have HV4 := Lib.hid hv4
              clear hx4 hr4 hv4 cv3 fv3 hvl3
              generalize (((q3.setCell ⟨w.heap.size + 1, 0, none⟩ (.int .i64 (2))).setCell ⟨w.heap.size + 1, 1, none⟩ (.int .i64 (zn))).setCell ⟨w.heap.size + 1, 2, none⟩ (.string ⟨#[]⟩)) = W4 at HX4 HR4 HV4 ⊢
              refine Calls.mono (refprint_any (2) (zn) ⟨#[]⟩ W4 ⟨hr1, hr2⟩ (Nat.zero_le _)) ?_
              rintro e q5 ⟨rfl, hb5⟩
              have HR5 := Lib.hid (HR4.out.keep hb5)
              have HV5 := Lib.hid (HV4.out.keep hb5)
              have HX5 := Lib.hid (show Below w.heap.size w q5 from HX4.out.trans (hb5.mono HX4.out.size))
              clear hb5
              have hvl5 := HV5.out.lt
              have hrl5 := HR5.out.lt
              obtain ⟨cr5, fr5⟩ := HR5.out.facts
              obtain ⟨cv5, fv5⟩ := HV5.out.facts
              obtain ⟨pS, hpS⟩ : ∃ pS, pS = prS (2) (zn) ⟨#[]⟩ := ⟨_, rfl⟩
              rw [← hpS]
              have hpb : bsl pS = prB (2, zn, []) := by rw [hpS, prS_cl _ _ _ hcl]; rfl
              have HPb := Lib.hid hpb
              clear hcl hpS hpb
              by_cases hp : prB (2, zn, []) = bsl s
              · have e1 : (pS.toList == s.toList) = true := (same_bytes _ _).2 (HPb.out.trans hp)
                have e2 : (pS.toList != s.toList) = false := by rw [bne, e1]; rfl
                have hval := HRV.out
                rw [rdV, if_pos hp] at hval
                have HVal := Lib.hid hval
                clear hval
                clear hp
                go_simp
                repeat (first | go_values | go_skip | go_guarded | go_step | go_upon)
                refine bodyPost_ret (ret_v2 rfl _ rfl rfl (blk3 HR5.out _ _ _)) rfl ⟨by rw [← HVal.out]; rfl, below3 HX5.out (Nat.le_refl _) _ _ _⟩
              · have e1 : (pS.toList == s.toList) = false := by
                  rw [Bool.eq_false_iff]
                  exact fun e => hp (HPb.out.symm.trans ((same_bytes _ _).1 e))
                have e2 : (pS.toList != s.toList) = true := by rw [bne, e1]; rfl
                have hval := HRV.out
                rw [rdV, if_neg hp] at hval
                have HVal := Lib.hid hval
                clear hval
                clear hp
                go_simp
                repeat (first | go_values | go_skip | go_guarded | go_step | go_upon)
                refine bodyPost_ret (ret_v2 rfl _ rfl rfl (blk3 HR5.out _ _ _)) rfl ⟨by rw [← HVal.out]; rfl, below3 HX5.out (Nat.le_refl _) _ _ _⟩
            · have b6 := hq b5
              clear hq
              have HRV := Lib.hid hRV
              clear hRV
              have hr0 := (Blk.new w #[.int .i64 0, .int .i64 0, .string ⟨#[]⟩] 23 rfl).alloc (.cells #[.int .i64 0, .int .i64 0, .string ⟨#[]⟩] 23)
              have hv0 := Blk.new (w.alloc (.cells #[.int .i64 0, .int .i64 0, .string ⟨#[]⟩] 23)) #[.int .i64 0, .int .i64 0, .string ⟨#[]⟩] 23 (n := w.heap.size + 1) (by simp)
              have hx0 : Below w.heap.size w ((w.alloc (.cells #[.int .i64 0, .int .i64 0, .string ⟨#[]⟩] 23)).alloc (.cells #[.int .i64 0, .int .i64 0, .string ⟨#[]⟩] 23)) := by go_grown
              have HR0 := Lib.hid hr0
              have HV0 := Lib.hid hv0
              have HX0 := Lib.hid hx0
              clear hr0 hv0 hx0
              go_enter Tryz.func10, Tryz.ntmps10
              go_wp2_with fail
              generalize ((w.alloc (.cells #[.int .i64 0, .int .i64 0, .string ⟨#[]⟩] 23)).alloc (.cells #[.int .i64 0, .int .i64 0, .string ⟨#[]⟩] 23)) = W0 at HR0 HV0 HX0 ⊢
              refine Calls.mono (KP.out _) ?_
              rintro e q1 ⟨rfl, rfl⟩
              have hrl0 := HR0.out.lt
              obtain ⟨cr0, fr0⟩ := HR0.out.facts
              go_simp
              repeat (first | go_values | go_skip | go_guarded | go_step | go_upon)
              refine Calls.mono (refint_any zn _) ?_
              rintro e q3 ⟨rfl, hb3⟩
              rw [show vV 2 zn emp = .agg #[.int .i64 2, .int .i64 zn, .string ⟨#[]⟩] from rfl]
              have HR3 := Lib.hid (HR0.out.keep hb3)
              have HV3 := Lib.hid (HV0.out.keep hb3)
              have HX3 := Lib.hid (show Below w.heap.size w q3 from HX0.out.trans (hb3.mono HX0.out.size))
              clear hb3
              obtain ⟨cv3, fv3⟩ := HV3.out.facts
              have hvl3 := HV3.out.lt
              go_simp
              repeat (first | go_values | go_skip | go_guarded | go_step | go_upon)
              have hcl : Cl (2, zn, bsl ⟨#[]⟩) := .inr (.inr (.inl ⟨rfl, ⟨hr1, hr2⟩, rfl⟩))
              have hx4 := below3 HX3.out (Nat.le_succ _) (.int .i64 (2)) (.int .i64 (zn)) (.string ⟨#[]⟩)
              have hr4 := ((HR3.out.other (a := ⟨w.heap.size + 1, 0, none⟩) (by show w.heap.size ≠ w.heap.size + 1; omega) (.int .i64 (2))).other (a := ⟨w.heap.size + 1, 1, none⟩) (by show w.heap.size ≠ w.heap.size + 1; omega) (.int .i64 (zn))).other (a := ⟨w.heap.size + 1, 2, none⟩) (by show w.heap.size ≠ w.heap.size + 1; omega) (.string ⟨#[]⟩)
              have hv4 := blk3 HV3.out (.int .i64 (2)) (.int .i64 (zn)) (.string ⟨#[]⟩)
              have HX4 := Lib.hid hx4
              have HR4 := Lib.hid hr4
              have HV4 := Lib.hid hv4
              clear hx4 hr4 hv4 cv3 fv3 hvl3
              generalize (((q3.setCell ⟨w.heap.size + 1, 0, none⟩ (.int .i64 (2))).setCell ⟨w.heap.size + 1, 1, none⟩ (.int .i64 (zn))).setCell ⟨w.heap.size + 1, 2, none⟩ (.string ⟨#[]⟩)) = W4 at HX4 HR4 HV4 ⊢
              refine Calls.mono (refprint_any (2) (zn) ⟨#[]⟩ W4 ⟨hr1, hr2⟩ (Nat.zero_le _)) ?_
              rintro e q5 ⟨rfl, hb5⟩
              have HR5 := Lib.hid (HR4.out.keep hb5)
              have HV5 := Lib.hid (HV4.out.keep hb5)
              have HX5 := Lib.hid (show Below w.heap.size w q5 from HX4.out.trans (hb5.mono HX4.out.size))
              clear hb5
              have hvl5 := HV5.out.lt
              have hrl5 := HR5.out.lt
              obtain ⟨cr5, fr5⟩ := HR5.out.facts
              obtain ⟨cv5, fv5⟩ := HV5.out.facts
              obtain ⟨pS, hpS⟩ : ∃ pS, pS = prS (2) (zn) ⟨#[]⟩ := ⟨_, rfl⟩
              rw [← hpS]
              have hpb : bsl pS = prB (2, zn, []) := by rw [hpS, prS_cl _ _ _ hcl]; rfl
              have HPb := Lib.hid hpb
              clear hcl hpS hpb
              by_cases hp : prB (2, zn, []) = bsl s
              · have e1 : (pS.toList == s.toList) = true := (same_bytes _ _).2 (HPb.out.trans hp)
                have e2 : (pS.toList != s.toList) = false := by rw [bne, e1]; rfl
                have hval := HRV.out
                rw [rdV, if_pos hp] at hval
                have HVal := Lib.hid hval
                clear hval
                clear hp
                go_simp
                repeat (first | go_values | go_skip | go_guarded | go_step | go_upon)
                refine bodyPost_ret (ret_v2 rfl _ rfl rfl (blk3 HR5.out _ _ _)) rfl ⟨by rw [← HVal.out]; rfl, below3 HX5.out (Nat.le_refl _) _ _ _⟩
              · have e1 : (pS.toList == s.toList) = false := by
                  rw [Bool.eq_false_iff]
                  exact fun e => hp (HPb.out.symm.trans ((same_bytes _ _).1 e))
                have e2 : (pS.toList != s.toList) = true := by rw [bne, e1]; rfl
                have hval := HRV.out
                rw [rdV, if_neg hp] at hval
                have HVal := Lib.hid hval
                clear hval
                clear hp
                go_simp
                repeat (first | go_values | go_skip | go_guarded | go_step | go_upon)
                refine bodyPost_ret (ret_v2 rfl _ rfl rfl (blk3 HR5.out _ _ _)) rfl ⟨by rw [← HVal.out]; rfl, below3 HX5.out (Nat.le_refl _) _ _ _⟩
          · have b7 : (ze == 0) = false := by simpa using w7
            have b8 : (ze != 0) = true := by rw [bne, b7]; rfl
            rw [if_neg w7, rdV, if_neg (show ¬ prB (0, 0, []) = bsl s from fun e => HW1.out e.symm)] at hRV
            clear w7
            have hq : (∀ h : 2 ≤ s.size, (((s[0]'(by omega)).toNat : Int) == 39) = false) := fun h => by
              rw [beq_eq_false_iff_ne]
              intro e
              refine HW4.out ⟨by rw [bsl_length]; exact h, ?_⟩
              rw [List.head?_eq_getElem?, bsl_get s 0 (by omega)]
              congr 1
              rw [← UInt8.toNat_inj]
              exact (by omega : (s[0]'(by omega)).toNat = 39)
            rcases Nat.lt_or_ge s.size 2 with b5 | b5
            · have b5n : ¬ 2 ≤ s.size := by omega
              clear hq b5
              have HRV := Lib.hid hRV
              clear hRV
              have hr0 := (Blk.new w #[.int .i64 0, .int .i64 0, .string ⟨#[]⟩] 23 rfl).alloc (.cells #[.int .i64 0, .int .i64 0, .string ⟨#[]⟩] 23)
              have hv0 := Blk.new (w.alloc (.cells #[.int .i64 0, .int .i64 0, .string ⟨#[]⟩] 23)) #[.int .i64 0, .int .i64 0, .string ⟨#[]⟩] 23 (n := w.heap.size + 1) (by simp)
              have hx0 : Below w.heap.size w ((w.alloc (.cells #[.int .i64 0, .int .i64 0, .string ⟨#[]⟩] 23)).alloc (.cells #[.int .i64 0, .int .i64 0, .string ⟨#[]⟩] 23)) := by go_grown
              have HR0 := Lib.hid hr0
              have HV0 := Lib.hid hv0
              have HX0 := Lib.hid hx0
              clear hr0 hv0 hx0
              go_enter Tryz.func10, Tryz.ntmps10
              go_wp2_with fail
              generalize ((w.alloc (.cells #[.int .i64 0, .int .i64 0, .string ⟨#[]⟩] 23)).alloc (.cells #[.int .i64 0, .int .i64 0, .string ⟨#[]⟩] 23)) = W0 at HR0 HV0 HX0 ⊢
              refine Calls.mono (KP.out _) ?_
              rintro e q1 ⟨rfl, rfl⟩
              have hrl0 := HR0.out.lt
              obtain ⟨cr0, fr0⟩ := HR0.out.facts
              go_simp
              repeat (first | go_values | go_skip | go_guarded | go_step | go_upon)
              refine bodyPost_ret (ret_v2 rfl _ rfl rfl (blk3 HR0.out _ _ _)) rfl ⟨by rw [← HRV.out]; rfl, below3 HX0.out (Nat.le_refl _) _ _ _⟩
            · have b6 := hq b5
              clear hq
              have HRV := Lib.hid hRV
              clear hRV
              have hr0 := (Blk.new w #[.int .i64 0, .int .i64 0, .string ⟨#[]⟩] 23 rfl).alloc (.cells #[.int .i64 0, .int .i64 0, .string ⟨#[]⟩] 23)
              have hv0 := Blk.new (w.alloc (.cells #[.int .i64 0, .int .i64 0, .string ⟨#[]⟩] 23)) #[.int .i64 0, .int .i64 0, .string ⟨#[]⟩] 23 (n := w.heap.size + 1) (by simp)
              have hx0 : Below w.heap.size w ((w.alloc (.cells #[.int .i64 0, .int .i64 0, .string ⟨#[]⟩] 23)).alloc (.cells #[.int .i64 0, .int .i64 0, .string ⟨#[]⟩] 23)) := by go_grown
              have HR0 := Lib.hid hr0
              have HV0 := Lib.hid hv0
              have HX0 := Lib.hid hx0
              clear hr0 hv0 hx0
              go_enter Tryz.func10, Tryz.ntmps10
              go_wp2_with fail
              generalize ((w.alloc (.cells #[.int .i64 0, .int .i64 0, .string ⟨#[]⟩] 23)).alloc (.cells #[.int .i64 0, .int .i64 0, .string ⟨#[]⟩] 23)) = W0 at HR0 HV0 HX0 ⊢
              refine Calls.mono (KP.out _) ?_
              rintro e q1 ⟨rfl, rfl⟩
              have hrl0 := HR0.out.lt
              obtain ⟨cr0, fr0⟩ := HR0.out.facts
              go_simp
              repeat (first | go_values | go_skip | go_guarded | go_step | go_upon)
              refine bodyPost_ret (ret_v2 rfl _ rfl rfl (blk3 HR0.out _ _ _)) rfl ⟨by rw [← HRV.out]; rfl, below3 HX0.out (Nat.le_refl _) _ _ _⟩
end Go.Proofs.YtbdaebjpgdpcnaaGreatDoor
