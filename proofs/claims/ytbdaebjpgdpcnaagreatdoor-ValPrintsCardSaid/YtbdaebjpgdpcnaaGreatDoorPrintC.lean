/-
  Numbers read by the program (ints.Parse): a text without the digits at its ends is empty just if it is digits alone.
-/
import Derived.Test.YtbdaebjpgdpcnaaGreatDoorPrintB
namespace Go.Proofs.YtbdaebjpgdpcnaaGreatDoor
open Go.RowKit Go.Lib
set_option maxRecDepth 100000

/-- Each byte of the text stands in the set. -/
def AllD (l : List UInt8) (t : ByteArray) : Prop := ∀ x ∈ t.data.toList, x ∈ l
theorem allD_nil (l : List UInt8) {t : ByteArray} (h : t.size = 0) : AllD l t := fun x hx => by
  have : t.data.toList.length = 0 := by rw [Array.length_toList]; exact h
  rw [List.eq_nil_of_length_eq_zero this] at hx
  cases hx
theorem allD_last (l : List UInt8) (t : ByteArray) (h : 0 < t.size) (hl : t[t.size - 1]'(by omega) ∈ l) : AllD l (t.extract 0 (t.size - 1)) ↔ AllD l t := by
  have e : t.data.toList = (t.extract 0 (t.size - 1)).data.toList ++ [t[t.size - 1]'(by omega)] := by
    rw [Lib.extract_data, List.drop_zero, Nat.sub_zero]
    have hn : t.size - 1 < t.data.toList.length := by rw [Array.length_toList]; show t.size - 1 < t.size; omega
    have h2 := List.take_succ_eq_append_getElem hn
    have h3 : t.size - 1 + 1 = t.data.toList.length := by rw [Array.length_toList]; show t.size - 1 + 1 = t.size; omega
    rw [h3, List.take_length] at h2
    exact h2
  unfold AllD
  rw [e]
  constructor
  · intro h x hx
    rcases List.mem_append.1 hx with hx | hx
    · exact h x hx
    · rw [List.mem_singleton.1 hx]; exact hl
  · intro h x hx
    exact h x (List.mem_append.2 (.inl hx))
theorem allD_first (l : List UInt8) (t : ByteArray) (h : 0 < t.size) (hl : t[0]'h ∈ l) : AllD l (t.extract 1 t.size) ↔ AllD l t := by
  have e : t.data.toList = t[0]'h :: (t.extract 1 t.size).data.toList := by
    have hd := bsl_dropZ t 0 h
    rw [List.drop_zero] at hd
    rw [Lib.extract_data]
    unfold bsl at hd
    conv => lhs; rw [hd]
    rw [List.take_of_length_le]
    rw [List.length_drop, Array.length_toList]
    exact Nat.le_refl _
  unfold AllD
  rw [e]
  constructor
  · intro h x hx
    rcases List.mem_cons.1 hx with rfl | hx
    · exact hl
    · exact h x hx
  · intro h x hx
    exact h x (List.mem_cons_of_mem _ hx)
set_option maxHeartbeats 4000000 in
theorem trimRight_dig (b : Nat) (l : List UInt8) (s : ByteArray) (w : World) (hS : ∀ x : UInt8, w.cell? ⟨b, x.toNat, none⟩ = some (.bool (decide (x ∈ l)))) (hs : s.size ≤ 1000000) :
    Calls Tryz.prog 118 #[.string s, .pointer (some ⟨b, 0, none⟩)] w fun e w' => (∃ t : ByteArray, e = .returned (.string t) ∧ (AllD l t ↔ AllD l s) ∧ t.size ≤ s.size) ∧ w' = w := by
  have HS := Lib.hid hS
  clear hS
  go_enter Tryz.func118, Tryz.ntmps118
  repeat (first | go_values | go_skip | go_guarded | go_step | go_upon)
  go_loopw [0] (fun v W => ∃ t : ByteArray, v = .string t ∧ (AllD l t ↔ AllD l s) ∧ t.size ≤ s.size ∧ W = w) (fun v _ => match v with | .string t => t.size | _ => 0)
  case atStart => exact ⟨s, rfl, Iff.rfl, Nat.le_refl _, rfl⟩
  case round =>
    obtain ⟨t, rfl, ht, hts, rfl⟩ := hrel
    have HT := Lib.hid ht
    clear ht
    by_cases h0 : 0 < t.size
    · go_wp2_with fail
      refine (Tryz.asciiSet_contains b (t[t.size - 1]'(by omega)) _ _ (HS.out _)).mono ?_
      rintro e w2 ⟨rfl, rfl⟩
      by_cases hin : t[t.size - 1]'(by omega) ∈ l
      · rw [decide_eq_true hin]
        have HIn := Lib.hid hin
        clear hin
        go_simp
        repeat (first | go_values | go_skip | go_guarded | go_step | go_upon)
        go_roundw
        case rel => exact ⟨_, rfl, (allD_last l t h0 HIn.out).trans HT.out, by simp [ByteArray.size_extract]; omega, trivial⟩
        case measure => simp [ByteArray.size_extract]; omega
      · rw [decide_eq_false hin]
        clear hin
        go_simp
        repeat (first | go_values | go_skip | go_guarded | go_step | go_upon)
        go_ret
        exact ⟨⟨_, rfl, HT.out, hts⟩, rfl⟩
    · repeat (first | go_values | go_skip | go_guarded | go_step | go_upon)
      go_ret
      exact ⟨⟨_, rfl, HT.out, hts⟩, rfl⟩
set_option maxHeartbeats 4000000 in
theorem trimLeft_dig (b : Nat) (l : List UInt8) (s : ByteArray) (w : World) (hS : ∀ x : UInt8, w.cell? ⟨b, x.toNat, none⟩ = some (.bool (decide (x ∈ l)))) (_hs : s.size ≤ 1000000) :
    Calls Tryz.prog 117 #[.string s, .pointer (some ⟨b, 0, none⟩)] w fun e w' => (∃ t : ByteArray, e = .returned (.string t) ∧ (t.size = 0 ↔ AllD l s)) ∧ w' = w := by
  have HS := Lib.hid hS
  clear hS
  go_enter Tryz.func117, Tryz.ntmps117
  repeat (first | go_values | go_skip | go_guarded | go_step | go_upon)
  go_loopw [0] (fun v W => ∃ t : ByteArray, v = .string t ∧ (AllD l t ↔ AllD l s) ∧ t.size ≤ s.size ∧ W = w) (fun v _ => match v with | .string t => t.size | _ => 0)
  case atStart => exact ⟨s, rfl, Iff.rfl, Nat.le_refl _, rfl⟩
  case round =>
    obtain ⟨t, rfl, ht, hts, rfl⟩ := hrel
    have HT := Lib.hid ht
    clear ht
    by_cases h0 : 0 < t.size
    · go_wp2_with fail
      refine (Tryz.asciiSet_contains b (t[0]'h0) _ _ (HS.out _)).mono ?_
      rintro e w2 ⟨rfl, rfl⟩
      by_cases hin : t[0]'h0 ∈ l
      · rw [decide_eq_true hin]
        have HIn := Lib.hid hin
        clear hin
        go_simp
        repeat (first | go_values | go_skip | go_guarded | go_step | go_upon)
        go_roundw
        case rel => exact ⟨_, rfl, (allD_first l t h0 HIn.out).trans HT.out, by simp [ByteArray.size_extract]; omega, trivial⟩
        case measure => simp [ByteArray.size_extract]; omega
      · rw [decide_eq_false hin]
        have HIn := Lib.hid hin
        clear hin
        go_simp
        repeat (first | go_values | go_skip | go_guarded | go_step | go_upon)
        go_ret
        refine ⟨⟨_, rfl, fun h => by omega, fun h => ?_⟩, rfl⟩
        exact absurd (HT.out.2 h _ (List.mem_of_getElem? (bsl_get t 0 h0))) HIn.out
    · repeat (first | go_values | go_skip | go_guarded | go_step | go_upon)
      go_ret
      exact ⟨⟨_, rfl, fun h => HT.out.1 (allD_nil l h), fun _ => by omega⟩, rfl⟩
def digL : List UInt8 := [48, 49, 50, 51, 52, 53, 54, 55, 56, 57]
theorem digL_mem (c : UInt8) : c ∈ digL ↔ Lx.isDigit c = true := by
  have h : ∀ n : Fin 256, (UInt8.ofNat n.val ∈ digL ↔ Lx.isDigit (UInt8.ofNat n.val) = true) := by decide +kernel
  have := h ⟨c.toNat, c.toNat_lt⟩
  simpa using this
theorem zeroSetD : ∀ w, (zeroValue 194).run Tryz.prog w = .ok (.agg (Array.replicate 256 (.bool false))) w := fun _ => by kernel_rfl
theorem infoSetD : (Tryz.prog.info? 194).map (·.size) = some 256 := by kernel_rfl
set_option maxHeartbeats 4000000 in
theorem trim_dig (s : ByteArray) (w : World) (hse : (s.toList == []) = false) (hs : s.size ≤ 1000000) :
    Calls Tryz.prog 63 #[.string s, .string ⟨digL.toArray⟩] w fun e w' => (∃ t : ByteArray, e = .returned (.string t) ∧ (t.size = 0 ↔ AllD digL s)) ∧ Below w.heap.size w w' := by
  have hce : digL.isEmpty = false := rfl
  have hcl : (digL.length : Int) = 10 := rfl
  go_enter Tryz.func63, Tryz.ntmps63
  repeat (first | go_values | go_skip | go_guarded | go_step | go_upon)
  refine (Tryz.strings_makeASCIISet zeroSetD ⟨digL.toArray⟩ _ (by decide) ?_).mono ?_
  · intro j b hj
    have hm := List.mem_of_getElem? hj
    have hall : ∀ b ∈ digL, b.toNat < 128 := by decide
    exact hall b hm
  rintro e w2 ⟨rfl, rfl⟩
  generalize hSC : Lib.setCells (⟨digL.toArray⟩ : ByteArray).data.toList = sc
  have hsz : sc.size = 256 := by rw [← hSC]; exact Lib.setCells_size _
  have hall : sc.all (·.oneCell') = true := by
    rw [← hSC, Lib.setCells_eq, Array.all_eq_true]
    intro i hi
    simp [Value.oneCell']
  have hin : ∀ x : UInt8, sc[x.toNat]? = some (.bool (decide (x ∈ digL))) := by
    intro x
    rw [← hSC, Lib.setCells_at]
    simp
  have HSZ := Lib.hid hsz
  have HAL := Lib.hid hall
  have HIN := Lib.hid hin
  clear hSC hsz hall hin
  have hz := zeroSetD
  go_simp
  go_wp2_with (refine wpList_store_row rfl 194 (.tmp 5) (.tmp 32) rfl (w.heap.size + 1) sc rfl rfl 194 (Array.replicate 256 (.bool false)) (Blk.new (w.alloc (.cells sc 194)) (Array.replicate 256 (.bool false)) 194 (by simp)) (by rw [HSZ.out]; exact infoSetD) (by rw [HSZ.out, Array.size_replicate]) HAL.out ?_)
  rw [show ((w.alloc (.cells sc 194)).alloc (.cells (Array.replicate 256 (.bool false)) 194)).setRow (w.heap.size + 1) sc = (w.alloc (.cells sc 194)).alloc (.cells sc 194) from by
    have := World.setRow_alloc_new (w.alloc (.cells sc 194)) (Array.replicate 256 (.bool false)) sc 194
    simpa using this]
  clear hz
  have hB : Blk ((w.alloc (.cells sc 194)).alloc (.cells sc 194)) (w.heap.size + 1) sc 194 := Blk.new (w.alloc (.cells sc 194)) sc 194 (by simp)
  have hX : Below w.heap.size w ((w.alloc (.cells sc 194)).alloc (.cells sc 194)) := by go_grown
  generalize ((w.alloc (.cells sc 194)).alloc (.cells sc 194)) = W1 at hB hX ⊢
  have HBs := Lib.hid (fun x : UInt8 => (hB.cell x.toNat).trans (HIN.out x))
  clear hB
  repeat (first | go_values | go_skip | go_guarded | go_step | go_upon)
  refine (trimRight_dig (w.heap.size + 1) digL s W1 HBs.out hs).mono ?_
  rintro e w3 ⟨⟨t, rfl, ht, hts⟩, rfl⟩
  have HT := Lib.hid ht
  clear ht
  go_simp
  repeat (first | go_values | go_skip | go_guarded | go_step | go_upon)
  refine (trimLeft_dig (w.heap.size + 1) digL t _ HBs.out (by omega)).mono ?_
  rintro e w4 ⟨⟨u, rfl, hu⟩, rfl⟩
  have HU := Lib.hid (hu.trans HT.out)
  clear hu
  go_simp
  repeat (first | go_values | go_skip | go_guarded | go_step | go_upon)
  go_ret
  exact ⟨⟨_, rfl, HU.out⟩, hX⟩

/-! ### ints.Parse -/
theorem trim_body (l : List UInt8) : Lib.trimPrefix l [45] = body l := by
  unfold Lib.trimPrefix Lib.hasPrefix body
  cases l with
  | nil => rfl
  | cons c r =>
    by_cases h : c = 45
    · subst h; simp [List.isPrefixOf]
    · simp [List.isPrefixOf, h, Ne.symm h]
set_option maxHeartbeats 4000000 in
theorem intsparse_any (s : ByteArray) (w : World) (hs : s.size ≤ 4000) (hG : ∀ W, Ext w W → GlobP W) :
    Calls Tryz.prog 35 #[.string s] w fun e w' => e = .returned (tup2 (intP (bsl s))) ∧ Below w.heap.size w w' := by
  have HG := Lib.hid hG
  clear hG
  obtain ⟨d, hd⟩ : ∃ d : ByteArray, d = ⟨(body (bsl s)).toArray⟩ := ⟨_, rfl⟩
  have hbd : bsl d = body (bsl s) := by rw [hd]; rfl
  have hdsz : d.size ≤ 4000 := by
    rw [← bsl_length, hbd]
    have : (body (bsl s)).length ≤ (bsl s).length := by unfold body; split <;> simp
    rw [bsl_length] at this
    omega
  have KT := Lib.hid (show ∀ W, Calls Tryz.prog 62 #[.string s, .string ⟨#[45]⟩] W fun e w' => e = .returned (.string d) ∧ w' = W from fun W => by
    have := Tryz.strings_TrimPrefix s ⟨#[45]⟩ W
    rw [show Lib.trimPrefix s.data.toList (ByteArray.mk #[45]).data.toList = body (bsl s) from trim_body _, ← hd] at this
    exact this)
  have hdig : digs (bsl s) = (!(bsl d).isEmpty && (bsl d).all Lx.isDigit) := by rw [hbd]; rfl
  have hiff : AllD digL d ↔ (bsl d).all Lx.isDigit = true := by
    rw [List.all_eq_true]
    exact ⟨fun h x hx => (digL_mem x).1 (h x hx), fun h x hx => (digL_mem x).2 (h x hx)⟩
  unfold tup2
  by_cases h0 : d.size = 0
  · have hemp : (d.toList == []) = true := toList_nil.2 (bsl_size0 h0)
    have hR : intP (bsl s) = (0, 3) := by
      unfold intP
      rw [hdig, bsl_size0 h0]
      rfl
    rw [hR]
    clear hd hbd hdig hiff hR
    go_enter Tryz.func35, Tryz.ntmps35
    go_wp2_with fail
    refine Calls.mono (KT.out _) ?_
    rintro e w1 ⟨rfl, rfl⟩
    go_wp2_with fail
    go_ret2
    exact ⟨rfl, Below.refl _ _⟩
  · have hemp : (d.toList == []) = false := by
      rw [Bool.eq_false_iff]
      intro h
      have := toList_nil.1 h
      rw [← bsl_length, this] at h0
      exact h0 rfl
    by_cases hall : (bsl d).all Lx.isDigit = true
    · have hdg : digs (bsl s) = true := by
        rw [hdig, hall]
        cases hb : bsl d with
        | nil => rw [← bsl_length, hb] at h0; exact absurd rfl h0
        | cons a r => rfl
      have hAll := hiff.2 hall
      have hcase : (∃ v, Lib.parseIntB 64 (bsl s) = .ok v) ∨ Lib.parseIntB 64 (bsl s) = .range := by
        rcases digs_cases _ hdg with ⟨q1, q2, _⟩ | ⟨d', q0, q1, q2⟩
        · rw [dig_int _ q1 q2]
          split
          · exact .inl ⟨_, rfl⟩
          · exact .inr rfl
        · rw [q0, dig_neg _ q1 q2]
          split
          · exact .inl ⟨_, rfl⟩
          · exact .inr rfl
      have HAll := Lib.hid hAll
      have KTr := Lib.hid (fun W => trim_dig d W hemp (by omega))
      rcases hcase with ⟨v, hv⟩ | hv
      · have hR : intP (bsl s) = (v, 0) := by unfold intP; rw [hdg, hv]; rfl
        rw [hR]
        have KP := Lib.hid (fun W => Tryz.strconv_ParseInt_10_at64_ok s (by omega) v hv W)
        clear hd hbd hdig hiff hall hdg hAll hv hR
        go_enter Tryz.func35, Tryz.ntmps35
        go_wp2_with fail
        refine Calls.mono (KT.out _) ?_
        rintro e w1 ⟨rfl, rfl⟩
        go_wp2_with fail
        refine Calls.mono (KTr.out _) ?_
        rintro e w2 ⟨⟨t, rfl, ht⟩, hb2⟩
        have htz : (t.toList == []) = true := toList_nil.2 (bsl_size0 (ht.2 HAll.out))
        have HB2 := Lib.hid hb2
        clear ht hb2
        go_wp2_with fail
        refine Calls.mono (KP.out _) ?_
        rintro e w3 ⟨rfl, hb3⟩
        have hb3' : Below w2.heap.size w2 w3 := by
          rcases hb3 with rfl | ⟨q, rfl⟩
          · exact Below.refl _ _
          · exact Lib.bytesWorld_below w2 5 q
        have HB3 := Lib.hid (HB2.out.trans (hb3'.mono HB2.out.size))
        clear hb3 hb3'
        go_wp2_with fail
        go_ret2
        exact ⟨rfl, HB3.out⟩
      · have hR : intP (bsl s) = (0, 17) := by unfold intP; rw [hdg, hv]; rfl
        rw [hR]
        have HV := Lib.hid hv
        clear hd hbd hdig hiff hall hdg hAll hv hR
        go_enter Tryz.func35, Tryz.ntmps35
        go_wp2_with fail
        refine Calls.mono (KT.out _) ?_
        rintro e w1 ⟨rfl, rfl⟩
        go_wp2_with fail
        refine Calls.mono (KTr.out _) ?_
        rintro e w2 ⟨⟨t, rfl, ht⟩, hb2⟩
        have htz : (t.toList == []) = true := toList_nil.2 (bsl_size0 (ht.2 HAll.out))
        have HB2 := Lib.hid hb2
        obtain ⟨tp, p, hr⟩ := (HG.out w2 hb2).range
        have HRg := Lib.hid hr
        clear ht hb2 hr
        go_wp2_with fail
        refine Calls.mono (Tryz.strconv_ParseInt_10_at64_range_var s (by omega) HV.out tp p _ HRg.out) ?_
        rintro e w3 ⟨N, rfl, _, _, hb3⟩
        have HB3 := Lib.hid (HB2.out.trans (hb3.mono HB2.out.size))
        clear hb3
        go_wp2_with fail
        go_ret2
        exact ⟨rfl, HB3.out⟩
    · have hdg : digs (bsl s) = false := by
        rw [hdig, Bool.eq_false_iff.2 hall, Bool.and_false]
      have hno : ¬ AllD digL d := fun h => hall (hiff.1 h)
      have hR : intP (bsl s) = (0, 3) := by unfold intP; rw [hdg]; rfl
      rw [hR]
      have HNo := Lib.hid hno
      have KTr := Lib.hid (fun W => trim_dig d W hemp (by omega))
      clear hd hbd hdig hiff hall hdg hno hR
      go_enter Tryz.func35, Tryz.ntmps35
      go_wp2_with fail
      refine Calls.mono (KT.out _) ?_
      rintro e w1 ⟨rfl, rfl⟩
      go_wp2_with fail
      refine Calls.mono (KTr.out _) ?_
      rintro e w2 ⟨⟨t, rfl, ht⟩, hb2⟩
      have htz : (t.toList == []) = false := by
        rw [Bool.eq_false_iff]
        intro h
        have q := toList_nil.1 h
        exact HNo.out (ht.1 (by rw [← bsl_length, q]; rfl))
      have HB2 := Lib.hid hb2
      clear ht hb2
      go_wp2_with fail
      go_ret2
      exact ⟨rfl, HB2.out⟩
end Go.Proofs.YtbdaebjpgdpcnaaGreatDoor
