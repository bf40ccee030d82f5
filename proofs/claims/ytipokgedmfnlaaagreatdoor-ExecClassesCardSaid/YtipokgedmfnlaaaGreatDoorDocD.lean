/-
  The document's signs of a text: all of them (umlautref1.Signs). The document's small signs, a sign's bytes, a text of small signs (umlautref1.Fold, One, FoldText); texts and lists held against each other (umlautref8.texts, sizes).
-/
import Derived.Test.YtipokgedmfnlaaaGreatDoorDocA
import Derived.Test.YtipokgedmfnlaaaGreatDoorSigns
import Derived.Test.YtipokgedmfnlaaaGreatDoorPutL
import Derived.Test.YtipokgedmfnlaaaGreatDoorWeigh
namespace Go.Proofs.YtipokgedmfnlaaaGreatDoor
open Go.RowKit Go.Lib
set_option maxRecDepth 100000

theorem bsl_nil (t : ByteArray) (h : t.size = 0) : t.toList = [] := by
  have : t = ⟨#[]⟩ := by
    obtain ⟨d⟩ := t
    have h2 : d.size = 0 := h
    rw [Array.size_eq_zero_iff.1 h2]
  rw [this]
  decide +kernel
theorem bsl_cons (t : ByteArray) (h : 0 < t.size) : (t.toList == []) = false := by
  have : t.toList ≠ [] := by
    intro h2
    rw [ByteArray.toList_eq] at h2
    have h3 : t.data.toList.length = t.size := Array.length_toList
    rw [h2] at h3
    simp at h3
    omega
  simpa using this
def SignR (P : Program) (f : FuncId) : Prop := ∀ (s : ByteArray), 0 < s.size → ∀ w, Calls P f #[.string s] w (SgR s w)
set_option maxHeartbeats 4000000 in
theorem signsR_of (hK : SignR Tryz.prog 184) (s : ByteArray) (hs : s.size ≤ 1000000) (w : World) :
    Calls Tryz.prog 140 #[.string s] w fun e w' => ∃ v, e = .returned v ∧ ReadsL w' v (intsV (signs s.data.toList)) ∧ Below w.heap.size w w' := by
  have HK := Lib.hid hK
  clear hK
  go_enter Tryz.func140, Tryz.ntmps140
  go_wp2_with fail
  go_loopw [0, 3] (fun tv v wr => ∃ t ds, tv = .string t ∧ SgnSt w wr s t ds v) (fun tv _ _ => match tv with | .string t => t.size | _ => 0)
  case atStart => exact ⟨s, [], rfl, rfl, Nat.le_refl _, World.ownsRow_nil _ _ _ _, Below.refl _ _⟩
  case round =>
    obtain ⟨t, ds, rfl, hr⟩ := hrel
    have HR := Lib.hid hr
    clear hr
    by_cases h0 : 0 < t.size
    · have h0' : (0 : Int) < t.size := by omega
      have hemp := bsl_cons t h0
      go_wp2_with fail
      refine Calls.mono (HK.out t h0 wr) ?_
      rintro e w2 ⟨rfl, hb2⟩
      have hne : t.data.toList ≠ [] := by
        intro h
        have : t.data.size = 0 := by rw [← Array.length_toList, h]; rfl
        have h2 : t.size = t.data.size := rfl
        omega
      have hok := sgn_ok t.data.toList hne
      have hcons := signs_cons t.data.toList hne
      have hall := HR.out.all
      rw [hcons] at hall
      have hdl : (ds ++ (sgn t.data.toList).1 :: signs (t.data.toList.drop (sgn t.data.toList).2)).length ≤ 1000000 := by
        rw [← hall]
        have h1 := signs_length s.data.toList
        rw [Array.length_toList] at h1
        exact Nat.le_trans h1 hs
      have hdrop : (t.extract (sgn t.data.toList).2 t.size).data.toList = t.data.toList.drop (sgn t.data.toList).2 := by
        rw [ByteArray.data_extract, Array.toList_extract, List.extract_eq_take_drop]
        refine List.take_of_length_le ?_
        rw [List.length_drop, Array.length_toList]
        exact Nat.le_refl _
      have hn2 : (sgn t.data.toList).2 ≤ t.size := by
        have := hok.2.1
        rwa [Array.length_toList] at this
      generalize sgn t.data.toList = cn at hok hall hdl hdrop hn2 ⊢
      obtain ⟨c, n⟩ := cn
      simp only at hok hall hdl hdrop hn2 ⊢
      have hn1 := hok.1
      have hnI : (n : Int) ≤ t.size := by omega
      have hcl := hok.2.2.2
      have HRow := Lib.hid (ownsRow_ext HR.out.row hb2)
      have HB2 : Hid (Below w.heap.size w w2) := Lib.hid (HR.out.below.trans (hb2.mono HR.out.below.size))
      have HZ := Lib.hid (show ∀ w5 v5, w5.ownsRow w.heap.size 3 1 v5 (ds.length + 1) (intsV ds ++ [.int .i64 (c : Int)]) → Below w.heap.size w w5 → SgnSt w w5 s (t.extract n t.size) (ds ++ [c]) v5 from
        fun w5 v5 h1 h2 => ⟨by rw [hall, hdrop]; simp, by simp [ByteArray.size_extract]; have := HR.out.size; omega, by rw [intsV_snoc, List.length_append]; exact h1, h2⟩)
      have hdl2 : ds.length ≤ 1000000 := by simp at hdl; omega
      clear hok hall hdl hdrop hcons hne hb2
      go_simp
      go_wp2_with (at_builtin; refine wpList_push rfl _ _ _ rfl w.heap.size 3 (.int .i64 0) 1 8 Tryz.underlying40 infoInt1 rfl (by decide) u3 ds.length (intsV ds) rfl (HRow.out.alloc _) w2.heap.size 3 #[.int .i64 (c : Int)] rfl (Blk.new _ _ _ rfl) rfl (by simp [Value.oneCell']) (by unfold maxLen; omega) (by omega) (by have := HB2.out.size; simp <;> omega) ?_; intro v5 w5 hown hgr hat)
      have HZ5 := Lib.hid (HZ.out w5 v5 hown ((HB2.out.alloc HB2.out.size _).grown hgr (by have := HB2.out.size; simp <;> omega) (fun k hk => by
        rcases HRow.out.2 with ⟨e, _⟩ | ⟨g', _, _, e, hB, _⟩
        · rw [e] at hk; simp [Value.ownBlock] at hk
        · rw [e] at hk; simp [Value.ownBlock] at hk; omega)))
      clear hown hgr hat
      go_wp2_with fail
      go_roundw
      case rel => exact ⟨_, _, rfl, HZ5.out⟩
      case measure => simp [ByteArray.size_extract]; omega
    · have ht0 : t.data.toList = [] := by
        have h2 : t.size = t.data.size := rfl
        exact List.eq_nil_of_length_eq_zero (by rw [Array.length_toList]; omega)
      have hall := HR.out.all
      rw [ht0, signs_nil, List.append_nil] at hall
      have hsz : t.size = 0 := by omega
      have hemp := bsl_nil t hsz
      have HF := Lib.hid (show ReadsL wr u3 (intsV (signs s.data.toList)) from by rw [hall]; exact ownsRow_reads HR.out.row)
      clear ht0 hall
      go_wp2_with fail
      go_ret
      exact ⟨_, rfl, HF.out, HR.out.below⟩
end Go.Proofs.YtipokgedmfnlaaaGreatDoor

namespace Go.Proofs.YtipokgedmfnlaaaGreatDoor
open Go.RowKit Go.Lib
set_option maxRecDepth 100000

set_option maxHeartbeats 4000000 in
theorem foldR_any (c : Nat) (h : c ≤ 1114367) (w : World) : Calls Tryz.prog 142 #[.int .i64 c] w fun e w' => e = .returned (.int .i64 ((foldC c : Nat) : Int)) ∧ w = w' := by
  have hI : (c : Int) ≤ 1114367 := by omega
  go_enter Tryz.func142, Tryz.ntmps142
  go_wp2_with fail
  all_goals
    try simp only [bne_iff_ne, ne_eq, bne_eq_false_iff_eq] at *
    go_ret
    refine ⟨?_, rfl⟩
    first
      | (rw [fold32 (by omega)]; rfl)
      | (rw [fold80 (by omega)]; rfl)
      | (rw [fold0 (by omega) (by omega)]; rfl)
/-- A new slice of bytes is turned to a text. -/
theorem conv_blk {w : World} {g : Nat} {l : List UInt8} {t : TypeId} (h : Blk w g (bytesV l).toArray t) : (convert 123 9 (.slice (some ⟨g, 0, none⟩) l.length l.length)).run Tryz.prog w = .ok (.string ⟨l.toArray⟩) w :=
  run_convert_bytes_back (P := Tryz.prog) w 123 9 5 ⟨g, 0, none⟩ l.length l Tryz.underlying123 Tryz.underlying5 Tryz.underlying9 (fun j hj => by
    rw [Addr.add_lit, Nat.zero_add, h.cell]
    simp [bytesV, hj])
def OneR (c : Nat) (w : World) (e : Ending) (w' : World) : Prop := e = .returned (.string ⟨(oneC c).toArray⟩) ∧ Below w.heap.size w w'
set_option maxHeartbeats 4000000 in
theorem oneR_high (c : Nat) (h0 : 1114112 ≤ c) (h1 : c < 1114368) (w : World) : Calls Tryz.prog 141 #[.int .i64 c] w (OneR c w) := by
  have dA : decide ((1114112 : Int) ≤ (c : Int)) = true := decide_eq_true (by omega)
  have hI : (c : Int) < 1114368 := by omega
  have hone : bytesV (oneC c) = [.int .u8 ((c : Int) - 1114112)] := by
    rw [one_high c h0 h1]
    congr 2
    omega
  have hlen := len_high c h0 h1
  unfold OneR
  generalize oneC c = m at hone hlen ⊢
  have hcv := conv_blk (w := w.alloc (.cells #[.int .u8 ((c : Int) - 1114112)] 5)) (g := w.heap.size) (l := m) (t := 5) (by rw [hone]; exact Blk.new _ _ _ rfl)
  rw [hlen] at hcv
  clear hone hlen
  go_enter Tryz.func141, Tryz.ntmps141
  have hlo : (0 : Int) ≤ (c : Int) - 1114112 := by omega
  have hhi : (c : Int) - 1114112 < 256 := by omega
  go_wp2_with fail
  go_ret
  exact ⟨rfl, by go_grown⟩
set_option maxHeartbeats 4000000 in
theorem oneR_one (c : Nat) (h1 : c < 128) (w : World) : Calls Tryz.prog 141 #[.int .i64 c] w (OneR c w) := by
  have dA : decide ((1114112 : Int) ≤ (c : Int)) = false := decide_eq_false (by omega)
  have dB : decide ((c : Int) < (128 : Int)) = true := decide_eq_true (by omega)
  have hI : (c : Int) < 1114368 := by omega
  have hone := one_one c h1
  have hlen := len_one c h1
  unfold OneR
  generalize oneC c = m at hone hlen ⊢
  have hcv := conv_blk (w := w.alloc (.cells #[.int .u8 (c : Int)] 5)) (g := w.heap.size) (l := m) (t := 5) (by rw [hone]; exact Blk.new _ _ _ rfl)
  rw [hlen] at hcv
  clear hone hlen
  go_enter Tryz.func141, Tryz.ntmps141
  go_wp2_with fail
  go_ret
  exact ⟨rfl, by go_grown⟩
set_option maxHeartbeats 4000000 in
theorem oneR_two (c : Nat) (h0 : 128 ≤ c) (h1 : c < 2048) (w : World) : Calls Tryz.prog 141 #[.int .i64 c] w (OneR c w) := by
  have dA : decide ((1114112 : Int) ≤ (c : Int)) = false := decide_eq_false (by omega)
  have dB : decide ((c : Int) < (128 : Int)) = false := decide_eq_false (by omega)
  have dC : decide ((c : Int) < (2048 : Int)) = true := decide_eq_true (by omega)
  have hI : (c : Int) < 1114368 := by omega
  have hone := one_two c h0 h1
  have hlen := len_two c h0 h1
  unfold OneR
  generalize oneC c = m at hone hlen ⊢
  have hcv := conv_blk (w := w.alloc (.cells #[.int .u8 (192 + (c : Int) / 64), .int .u8 (128 + (c : Int) % 64)] 5)) (g := w.heap.size) (l := m) (t := 5) (by rw [hone]; exact Blk.new _ _ _ rfl)
  rw [hlen] at hcv
  clear hone hlen
  go_enter Tryz.func141, Tryz.ntmps141
  go_wp2_with fail
  go_ret
  exact ⟨rfl, by go_grown⟩
set_option maxHeartbeats 4000000 in
theorem oneR_three (c : Nat) (h0 : 2048 ≤ c) (h1 : c < 65536) (w : World) : Calls Tryz.prog 141 #[.int .i64 c] w (OneR c w) := by
  have dA : decide ((1114112 : Int) ≤ (c : Int)) = false := decide_eq_false (by omega)
  have dB : decide ((c : Int) < (128 : Int)) = false := decide_eq_false (by omega)
  have dC : decide ((c : Int) < (2048 : Int)) = false := decide_eq_false (by omega)
  have dD : decide ((c : Int) < (65536 : Int)) = true := decide_eq_true (by omega)
  have hI : (c : Int) < 1114368 := by omega
  have hone := one_three c h0 h1
  have hlen := len_three c h0 h1
  unfold OneR
  generalize oneC c = m at hone hlen ⊢
  have hcv := conv_blk (w := w.alloc (.cells #[.int .u8 (224 + (c : Int) / 4096), .int .u8 (128 + (c : Int) / 64 % 64), .int .u8 (128 + (c : Int) % 64)] 5)) (g := w.heap.size) (l := m) (t := 5) (by rw [hone]; exact Blk.new _ _ _ rfl)
  rw [hlen] at hcv
  clear hone hlen
  go_enter Tryz.func141, Tryz.ntmps141
  go_wp2_with fail
  go_ret
  exact ⟨rfl, by go_grown⟩
set_option maxHeartbeats 4000000 in
theorem oneR_four (c : Nat) (h0 : 65536 ≤ c) (h1 : c < 1114112) (w : World) : Calls Tryz.prog 141 #[.int .i64 c] w (OneR c w) := by
  have dA : decide ((1114112 : Int) ≤ (c : Int)) = false := decide_eq_false (by omega)
  have dB : decide ((c : Int) < (128 : Int)) = false := decide_eq_false (by omega)
  have dC : decide ((c : Int) < (2048 : Int)) = false := decide_eq_false (by omega)
  have dD : decide ((c : Int) < (65536 : Int)) = false := decide_eq_false (by omega)
  have hI : (c : Int) < 1114368 := by omega
  have hone := one_four c h0 h1
  have hlen := len_four c h0 h1
  unfold OneR
  generalize oneC c = m at hone hlen ⊢
  have hcv := conv_blk (w := w.alloc (.cells #[.int .u8 (240 + (c : Int) / 262144), .int .u8 (128 + (c : Int) / 4096 % 64), .int .u8 (128 + (c : Int) / 64 % 64), .int .u8 (128 + (c : Int) % 64)] 5)) (g := w.heap.size) (l := m) (t := 5) (by rw [hone]; exact Blk.new _ _ _ rfl)
  rw [hlen] at hcv
  clear hone hlen
  go_enter Tryz.func141, Tryz.ntmps141
  go_wp2_with fail
  go_ret
  exact ⟨rfl, by go_grown⟩
theorem oneR_any (c : Nat) (h : c ≤ 1114367) (w : World) : Calls Tryz.prog 141 #[.int .i64 c] w (OneR c w) := by
  by_cases h1 : c < 128
  · exact oneR_one c h1 w
  · by_cases h2 : c < 2048
    · exact oneR_two c (by omega) h2 w
    · by_cases h3 : c < 65536
      · exact oneR_three c (by omega) h3 w
      · by_cases h4 : c < 1114112
        · exact oneR_four c (by omega) h4 w
        · exact oneR_high c (by omega) (by omega) w
theorem textsR_any (a b : ByteArray) (w : World) : Calls Tryz.prog 86 #[.string a, .string b] w fun e w' => e = .returned (.int .i64 (cmpL (bytesN a.data.toList) (bytesN b.data.toList))) ∧ w = w' := by
  go_enter Tryz.func86, Tryz.ntmps86
  go_wp2_with fail
  · have h : Op.bytesLess a.toList b.toList = true := by assumption
    rw [ByteArray.toList_eq, ByteArray.toList_eq] at h
    go_ret
    refine ⟨?_, rfl⟩
    rw [less_cmp, if_pos h]
    rfl
  · have h1 : Op.bytesLess a.toList b.toList = false := by assumption
    have h2 : (!a.toList == b.toList) = true := by assumption
    rw [ByteArray.toList_eq, ByteArray.toList_eq] at h1 h2
    go_ret
    refine ⟨?_, rfl⟩
    rw [less_cmp, if_neg (by rw [h1]; simp), if_neg (by simpa using h2)]
    rfl
  · have h1 : Op.bytesLess a.toList b.toList = false := by assumption
    have h2 : (!a.toList == b.toList) = false := by assumption
    rw [ByteArray.toList_eq, ByteArray.toList_eq] at h1 h2
    go_ret
    refine ⟨?_, rfl⟩
    rw [less_cmp, if_neg (by rw [h1]; simp), if_pos (by simpa using h2)]
    rfl
theorem sizesR_any (a b : Nat) (w : World) : Calls Tryz.prog 143 #[.int .i64 a, .int .i64 b] w fun e w' => e = .returned (.int .i64 (cmpN a b)) ∧ w = w' := by
  go_enter Tryz.func143, Tryz.ntmps143
  go_wp2_with fail
  all_goals
    go_ret
    refine ⟨?_, rfl⟩
    unfold cmpN
    repeat' split
    all_goals first | rfl | (exfalso; omega)
end Go.Proofs.YtipokgedmfnlaaaGreatDoor
