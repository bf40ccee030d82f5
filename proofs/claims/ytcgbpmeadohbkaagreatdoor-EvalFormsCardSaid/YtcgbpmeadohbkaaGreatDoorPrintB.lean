import Derived.Lib.SmallJoins
import Derived.Test.YtcgbpmeadohbkaaGreatDoorRwP
import Derived.Test.YtcgbpmeadohbkaaGreatDoorShelf
namespace Go.Proofs.YtcgbpmeadohbkaaGreatDoor
open Go.RowKit Go.Lib
set_option maxRecDepth 100000
structure GlobP (w : World) : Prop where
 g : Glob w
 pow : Lib.TabIs Tryz.prog w "internal/strconv.uint64pow10" .u64 Lib.pow10Tab
 range : ∃ tp p, w.var? Tryz.prog "strconv.ErrRange" = some #[.iface tp p]
theorem globalPow : Tryz.prog.globalNamed "internal/strconv.uint64pow10" = some 1 := by kernel_rfl
theorem globalRangeP : Tryz.prog.globalNamed "strconv.ErrRange" = some 4 := by kernel_rfl
theorem GlobP.keep {w w' : World} (h : GlobP w) (hb : Below w.heap.size w w') : GlobP w' := by
 obtain ⟨tp, p, hr⟩ := h.range
 exact ⟨h.g.keep hb, Joins.tab_stays globalPow h.pow hb (Nat.le_refl _), ⟨tp, p, Joins.var_stays globalRangeP hr hb (Nat.le_refl _)⟩⟩
theorem toList_nil {s : ByteArray} : (s.toList == []) = true ↔ bsl s = [] := by
 rw [ByteArray.toList_eq, beq_iff_eq]
 rfl
theorem cl_of (k n : Int) (s : ByteArray) (hn : InR n) : Cl (cK k n s, cN k n s, bsl (cS k n s)) := by
 unfold cK cN cS
 cases h : vOk k n s
 ·exact .inl ⟨rfl, rfl, rfl⟩
 ·simp only [if_true]
  unfold vOk at h
  split at h
  ·rename_i hk
   subst hk
   rw [Bool.and_eq_true, beq_iff_eq] at h
   exact .inl ⟨rfl, h.1, toList_nil.1 h.2⟩
  ·split at h
   ·rename_i hk
    subst hk
    rw [Bool.and_eq_true, Bool.or_eq_true, beq_iff_eq, beq_iff_eq] at h
    exact .inr (.inl ⟨rfl, h.1, toList_nil.1 h.2⟩)
   ·split at h
    ·rename_i hk
     subst hk
     exact .inr (.inr (.inl ⟨rfl, hn, toList_nil.1 h⟩))
    ·rw [Bool.and_eq_true, beq_iff_eq, beq_iff_eq] at h
     exact .inr (.inr (.inr ⟨h.1, h.2⟩))
theorem cS_le (k n : Int) (s : ByteArray) : (cS k n s).size ≤ s.size := by
 unfold cS
 split
 ·exact Nat.le_refl _
 ·exact Nat.zero_le _
theorem cS_text (k n : Int) (s : ByteArray) (h : cK k n s = 3) : cS k n s = s := by
 unfold cK at h
 unfold cS
 by_cases hok : vOk k n s = true
 ·rw [if_pos hok]
 ·rw [if_neg hok] at h; cases h
def prS (k n : Int) (s : ByteArray) : ByteArray := ⟨(prB (cK k n s, cN k n s, bsl (cS k n s))).toArray⟩
theorem ret_vP {t : Tmp} {fn : Func} (h : fn.results = #[.cell t 69]) (tmps : Array Value) {w : World} {g : Nat} {cs : Array Value} (hc : cs.size = 3) (hp : tmps.getD t undef = .pointer (some ⟨g, 0, none⟩)) (hg : Blk w g cs 69) :
 (results fn tmps).run Tryz.prog w = .ok (.agg cs) w := by
 have hp' : tmps[t]?.getD undef = .pointer (some ⟨g, 0, none⟩) := by simpa using hp
 have hr := run_loadVar_row w g 69 69 cs (0, 0) _ hg Tryz.underlying69 rfl (by rw [hc]; kernel_rfl)
 simp [results, h, hp', asAddr, hr]
set_option maxHeartbeats 4000000 in
theorem refcleanP_any (k n : Int) (s : ByteArray) (w : World) : Calls Tryz.prog 80 #[vV k n s] w fun e w' => e = .returned (vV (cK k n s) (cN k n s) (cS k n s)) ∧ Below w.heap.size w w' := by
 have KO := Lib.hid (refok_any k n s)
 unfold cK cN cS
 cases h : vOk k n s
 ·rw [h] at KO
  rw [if_neg (by simp), if_neg (by simp), if_neg (by simp)]
  rw [show vV k n s = .agg #[.int .i64 k, .int .i64 n, .string s] from rfl] at KO ⊢
  rw [show vV 0 0 emp = .agg #[.int .i64 0, .int .i64 0, .string ⟨#[]⟩] from rfl]
  go_enter Tryz.func80, Tryz.ntmps80
  go_wp2_with fail
  have hR := Blk.new (w.alloc (.cells #[.int .i64 k, .int .i64 n, .string s] 69)) #[.int .i64 0, .int .i64 0, .string ⟨#[]⟩] 69 (n := w.heap.size + 1) (by simp)
  have hx0 := ((Ext.refl w).alloc (.cells #[.int .i64 k, .int .i64 n, .string s] 69)).alloc (.cells #[.int .i64 0, .int .i64 0, .string ⟨#[]⟩] 69)
  refine Calls.mono (KO.out _) ?_
  rintro e w2 ⟨rfl, hb2⟩
  have HR := Lib.hid (hR.keep hb2)
  have HX := Lib.hid (Ext.trans hx0 hb2)
  obtain ⟨cr, fr⟩ := (hR.keep hb2).facts
  have hrl := (hR.keep hb2).lt
  clear hR hx0 hb2
  go_simp
  repeat (first | go_values | go_skip | go_guarded | go_step | go_upon)
  refine bodyPost_ret (ret_vP rfl _ rfl rfl (blk3 HR.out _ _ _)) rfl ?_
  exact ⟨rfl, below3 (show Below w.heap.size w w2 from HX.out) (by simp) _ _ _⟩
 ·rw [h] at KO
  rw [if_pos rfl, if_pos rfl, if_pos rfl]
  rw [show vV k n s = .agg #[.int .i64 k, .int .i64 n, .string s] from rfl] at KO ⊢
  go_enter Tryz.func80, Tryz.ntmps80
  go_wp2_with fail
  have hA := (Blk.new w #[.int .i64 k, .int .i64 n, .string s] 69 rfl).alloc (.cells #[.int .i64 0, .int .i64 0, .string ⟨#[]⟩] 69)
  have hR := Blk.new (w.alloc (.cells #[.int .i64 k, .int .i64 n, .string s] 69)) #[.int .i64 0, .int .i64 0, .string ⟨#[]⟩] 69 (n := w.heap.size + 1) (by simp)
  have hx0 := ((Ext.refl w).alloc (.cells #[.int .i64 k, .int .i64 n, .string s] 69)).alloc (.cells #[.int .i64 0, .int .i64 0, .string ⟨#[]⟩] 69)
  refine Calls.mono (KO.out _) ?_
  rintro e w2 ⟨rfl, hb2⟩
  have HR := Lib.hid (hR.keep hb2)
  have HX := Lib.hid (Ext.trans hx0 hb2)
  obtain ⟨cr, fr⟩ := (hR.keep hb2).facts
  have hrl := (hR.keep hb2).lt
  obtain ⟨ca, fa⟩ := (hA.keep hb2).facts
  clear hA hR hx0 hb2
  go_simp
  repeat (first | go_values | go_skip | go_guarded | go_step | go_upon)
  refine bodyPost_ret (ret_vP rfl _ rfl rfl (blk3 HR.out _ _ _)) rfl ?_
  exact ⟨rfl, below3 (show Below w.heap.size w w2 from HX.out) (by simp) _ _ _⟩
theorem ext1 (s : ByteArray) (k : Nat) (h : k < s.size) : s.extract k (k + 1) = ⟨#[s[k]'h]⟩ := by
 refine ba_ext ?_
 rw [Lib.extract_data]
 have hd := bsl_dropZ s k h
 unfold bsl at hd
 rw [hd]
 simp
theorem escQ_take (l : List UInt8) (k : Nat) (c : UInt8) (h : l[k]? = some c) : escQ (l.take (k + 1)) = escQ (l.take k) ++ (if c = 39 then [39, 39] else [c]) := by
 have hk := (List.getElem?_eq_some_iff.1 h).1
 rw [List.take_succ_eq_append_getElem hk, escQ_append]
 have : l[k] = c := by rw [List.getElem?_eq_getElem hk] at h; exact Option.some.inj h
 rw [this]
 congr 1
 by_cases hc : c = 39
 ·subst hc; rfl
 ·rw [escQ_c c [] hc, if_neg hc]; rfl
set_option maxHeartbeats 4000000 in
theorem refprint_any (k n : Int) (s : ByteArray) (w : World) (hn : InR n) (hs : s.size ≤ 4000) :
 Calls Tryz.prog 50 #[vV k n s] w fun e w' => e = .returned (.string (prS k n s)) ∧ Below w.heap.size w w' := by
 have KI := Lib.hid (refcleanP_any k n s)
 have hcl := cl_of k n s hn
 have hle := cS_le k n s
 unfold prS
 generalize cK k n s = K at KI hcl ⊢
 generalize cN k n s = M at KI hcl ⊢
 generalize cS k n s = T at KI hcl hle ⊢
 simp only [vV] at KI ⊢
 rcases hcl with ⟨h1, h2, h3⟩ | ⟨h1, h2, h3⟩ | ⟨h1, h2, h3⟩ | ⟨h1, h2⟩
 ·simp only at h1 h2; subst h1 h2
  go_enter Tryz.func50, Tryz.ntmps50
  go_wp2_with fail
  refine Calls.mono (KI.out _) ?_
  rintro e w1 ⟨rfl, hb⟩
  have hA := (Blk.new w #[.int .i64 k, .int .i64 n, .string s] 69 rfl).keep hb
  have hB0 : Below w.heap.size w w1 := Below.trans (by go_grown) (hb.mono (by simp))
  have HA := Lib.hid hA
  have HB := Lib.hid hB0
  obtain ⟨ca, fa⟩ := hA.facts
  clear hA hb hB0
  go_simp
  repeat (first | go_values | go_skip | go_guarded | go_step | go_upon)
  go_ret
  exact ⟨by simp [prB, nullL], below3 HB.out (Nat.le_refl _) _ _ _⟩
 ·simp only at h1 h2; subst h1
  rcases h2 with rfl | rfl
  all_goals
   go_enter Tryz.func50, Tryz.ntmps50
   go_wp2_with fail
   refine Calls.mono (KI.out _) ?_
   rintro e w1 ⟨rfl, hb⟩
   have hA := (Blk.new w #[.int .i64 k, .int .i64 n, .string s] 69 rfl).keep hb
   have hB0 : Below w.heap.size w w1 := Below.trans (by go_grown) (hb.mono (by simp))
   have HA := Lib.hid hA
   have HB := Lib.hid hB0
   obtain ⟨ca, fa⟩ := hA.facts
   clear hA hb hB0
   go_simp
   repeat (first | go_values | go_skip | go_guarded | go_step | go_upon)
   go_ret
   exact ⟨by simp [prB, trueL, falseL], below3 HB.out (Nat.le_refl _) _ _ _⟩
 ·simp only at h1 h2; subst h1
  have HM := Lib.hid h2
  clear h2
  go_enter Tryz.func50, Tryz.ntmps50
  go_wp2_with fail
  refine Calls.mono (KI.out _) ?_
  rintro e w1 ⟨rfl, hb⟩
  have hA := (Blk.new w #[.int .i64 k, .int .i64 n, .string s] 69 rfl).keep hb
  have hB0 : Below w.heap.size w w1 := Below.trans (by go_grown) (hb.mono (by simp))
  have HA := Lib.hid hA
  have HB := Lib.hid hB0
  obtain ⟨ca, fa⟩ := hA.facts
  clear hA hb hB0
  go_simp
  repeat (first | go_values | go_skip | go_guarded | go_step | go_upon)
  refine Calls.mono (reftextZ_any M _ HM.out) ?_
  rintro e w2 ⟨rfl, rfl⟩
  go_simp
  repeat (first | go_values | go_skip | go_guarded | go_step | go_upon)
  go_ret
  exact ⟨by simp [prB], below3 HB.out (Nat.le_refl _) _ _ _⟩
 ·simp only at h1 h2; subst h1 h2
  go_enter Tryz.func50, Tryz.ntmps50
  go_wp2_with fail
  refine Calls.mono (KI.out _) ?_
  rintro e w1 ⟨rfl, hb⟩
  have hA := (Blk.new w #[.int .i64 k, .int .i64 n, .string s] 69 rfl).keep hb
  have hB0 : Below w.heap.size w w1 := Below.trans (by go_grown) (hb.mono (by simp))
  have HA := Lib.hid hA
  have HB := Lib.hid hB0
  obtain ⟨ca, fa⟩ := hA.facts
  clear hA hb hB0
  go_simp
  repeat (first | go_values | go_skip | go_guarded | go_step | go_upon)
  have hx3 := below3 HB.out (Nat.le_refl _) (.int .i64 3) (.int .i64 0) (.string T)
  have hA3 := blk3 HA.out (.int .i64 3) (.int .i64 0) (.string T)
  have HX3 := Lib.hid hx3
  obtain ⟨c3, _⟩ := hA3.facts
  clear ca fa hx3 hA3
  generalize (((w1.setCell ⟨w.heap.size, 0, none⟩ (.int .i64 3)).setCell ⟨w.heap.size, 1, none⟩ (.int .i64 0)).setCell ⟨w.heap.size, 2, none⟩ (.string T)) = W3 at HX3 c3 ⊢
  go_loop [3, 4] (fun t i => ∃ (j : Nat) (a : ByteArray), j ≤ T.size ∧ i = .int .i64 j ∧ t = .string a ∧ a.data.toList = 39 :: escQ ((bsl T).take j)) (fun _ i => T.size - (intOf i).toNat)
  case atStart => exact ⟨0, ⟨#[39]⟩, Nat.zero_le _, rfl, rfl, rfl⟩
  case round =>
   obtain ⟨j, a, hj, rfl, rfl, hq⟩ := hrel
   have hq1 := escQ_len ((bsl T).take j)
   have hq2 := congrArg List.length hq
   have hq3 : a.data.toList.length = a.size := Array.length_toList
   rw [List.length_take, bsl_length] at hq1
   rw [List.length_cons] at hq2
   have hasz : a.size ≤ 8001 := by omega
   clear hq1 hq2 hq3
   have HQ := Lib.hid hq
   clear hq
   by_cases hlt : j < T.size
   ·have hx := ext1 T j hlt
    have hg := bsl_get T j hlt
    have HT := Lib.hid (escQ_take (bsl T) j _ hg)
    clear hg
    by_cases h39 : (T[j]'hlt) = 39
    ·have e39 : (((T[j]'hlt).toNat : Int) == 39) = true := by rw [h39]; rfl
     rw [h39, if_pos rfl] at HT
     rw [h39] at hx
     have H39 := Lib.hid h39
     clear h39
     go_wp2_with fail
     go_round
     case rel =>
      refine ⟨j + 1, _, by omega, by go_num, rfl, ?_⟩
      rw [HT.out]
      simp [HQ.out]
     case measure => simp [intOf]; omega
    ·have e39 : (((T[j]'hlt).toNat : Int) == 39) = false := by
      rw [beq_eq_false_iff_ne]
      intro h
      exact h39 (by rw [← UInt8.toNat_inj]; exact (by omega : (T[j]'hlt).toNat = 39))
     rw [if_neg h39] at HT
     clear h39
     go_wp2_with fail
     go_round
     case rel =>
      refine ⟨j + 1, _, by omega, by go_num, rfl, ?_⟩
      rw [HT.out]
      simp [HQ.out]
     case measure => simp [intOf]; omega
   ·have hfull : (bsl T).take j = bsl T := List.take_of_length_le (by rw [bsl_length]; omega)
    rw [hfull] at HQ
    clear hfull
    go_wp2_with fail
    go_ret
    exact ⟨congrArg (fun x => Ending.returned (.string x)) (ba_ext (by simp [prB, HQ.out])), HX3.out⟩
end Go.Proofs.YtcgbpmeadohbkaaGreatDoor
