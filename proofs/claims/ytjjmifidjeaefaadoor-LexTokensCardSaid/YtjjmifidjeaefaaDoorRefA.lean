/-
  The document's own lexer: its leaves.
-/
import Derived.Test.YtjjmifidjeaefaaDoorLexE
import Derived.Test.YtjjmifidjeaefaaDoorRef1
import Derived.Lib.ConvBytes
import Derived.Lib.LazyBuf
namespace Go.Proofs.YtjjmifidjeaefaaDoor
open Go.RowKit Go.Shelf
set_option maxRecDepth 100000

set_option maxHeartbeats 1000000 in
theorem refletter_any (c : UInt8) (w : World) :
    Calls Tryd.prog 27 #[.int .u8 c.toNat] w fun e w' => e = .returned (.bool (Lx.isNameB c)) ∧ w = w' := by
  have hL := isLetter_eq c
  have hB : Lx.isNameB c = (Lx.isLetter c || Lx.isDigit c) := rfl
  rw [hB, hL]
  clear hB hL
  have hc := c.toNat_lt
  go_enter Tryd.func27, Tryd.ntmps27
  go_wp2_with (go_at_call 25; refine (refdigit_any c w).mono ?_; rintro e w' ⟨rfl, rfl⟩)
  all_goals (go_ret; refine ⟨ret_bool ?_, rfl⟩)
  all_goals first
    | rfl
    | (generalize Lx.isDigit c = d; rw [Bool.eq_iff_iff]; cases d <;> simp <;> omega)

/-- Bytes in a block, none of which is frozen. -/
structure BRow (W : World) (b : Nat) (l : List UInt8) : Prop where
  cell : ∀ (j : Nat) (c : UInt8), l[j]? = some c → W.cell? ⟨b, j, none⟩ = some (.int .u8 c.toNat)
  free : ∀ j, j < l.length → W.frozen? ⟨b, j, none⟩ = false
theorem BRow.start (w : World) (s : ByteArray) : BRow (Lib.bytesWorld w 5 s) w.heap.size (bsl s) := by
  refine ⟨fun j c hc => ?_, fun j hj => ?_⟩
  · have hj : j < s.size := by rw [← bsl_length]; exact (List.getElem?_eq_some_iff.1 hc).1
    rw [Lib.bytesWorld_cell w _ s j hj]
    have e : s.data.toList.getD j 0 = c := by
      rw [List.getD, show s.data.toList[j]? = some c from hc]; rfl
    rw [e]
  · rw [bsl_length] at hj
    have hb := Lib.bytesWorld_at_new w 5 s
    have hsz : s.size ≤ (Lib.bytesCells w 5 s).size := by
      rcases Nat.lt_or_ge ((Lib.bytesCells w 5 s).size) s.size with h | h
      · exfalso
        have h1 := Lib.bytesWorld_cell w 5 s ((Lib.bytesCells w 5 s).size) h
        simp [World.cell?, hb] at h1
      · exact h
    simp [World.frozen?, hb]
    omega
theorem BRow.set {W : World} {b k : Nat} {a r : List UInt8} {c : UInt8} {d : List UInt8} (h : BRow W b (a ++ d)) (hk : a.length = k) (hd : d = c :: r) (u : UInt8) : BRow (W.setCell ⟨b, k, none⟩ (.int .u8 u.toNat)) b (a ++ u :: r) := by
  subst hd
  refine ⟨fun j x hx => ?_, fun j hj => ?_⟩
  · rcases Nat.lt_trichotomy j k with hlt | rfl | hgt
    · rw [World.cell?_setCell_other _ _ _ _ (by intro h; simp only [Addr.mk.injEq] at h; omega)]
      apply h.cell
      rw [List.getElem?_append_left (by omega)] at hx ⊢
      exact hx
    · rw [List.getElem?_append_right (by omega), hk, Nat.sub_self, List.getElem?_cons_zero] at hx
      cases hx
      exact World.cell?_setCell_same _ _ _ (h.cell j c (by rw [List.getElem?_append_right (by omega), hk, Nat.sub_self]; rfl))
    · rw [World.cell?_setCell_other _ _ _ _ (by intro h; simp only [Addr.mk.injEq] at h; omega)]
      apply h.cell
      rw [List.getElem?_append_right (by omega)] at hx ⊢
      rw [show j - a.length = (j - a.length - 1) + 1 by omega, List.getElem?_cons_succ] at hx ⊢
      exact hx
  · rw [World.frozen?_setCell]
    exact h.free j (by simpa using hj)
/-- The whole block as a string. -/
theorem BRow.nums {W : World} {b : Nat} {l : List UInt8} (h : BRow W b l) : ∀ i, i < l.length → W.cell? ⟨b, 0 + i, none⟩ = some (.int .u8 ((l.map fun c => (c.toNat : Int)).getD i 0)) := by
  intro i hi
  rw [Nat.zero_add, h.cell i _ (List.getElem?_eq_getElem hi)]
  simp [List.getD, List.getElem?_eq_getElem hi]
theorem upperB_eq (c : UInt8) : Lib.upperB c = if 97 ≤ c.toNat ∧ c.toNat ≤ 122 then c - 32 else c := by
  simp [Lib.upperB, Lib.isLowerB, UInt8.le_iff_toNat_le]
theorem lowerB_eq (c : UInt8) : Lib.lowerB c = if 65 ≤ c.toNat ∧ c.toNat ≤ 90 then c + 32 else c := by
  simp [Lib.lowerB, Lib.isUpperB, UInt8.le_iff_toNat_le]
theorem u8_sub32 {c : UInt8} (h : 97 ≤ c.toNat) : (((c - 32).toNat : Nat) : Int) = (c.toNat : Int) - 32 := by
  rw [UInt8.toNat_sub_of_le _ _ (by rw [UInt8.le_iff_toNat_le]; show 32 ≤ _; omega)]
  show ((c.toNat - 32 : Nat) : Int) = _
  omega
theorem u8_add32 {c : UInt8} (h : c.toNat ≤ 90) : (((c + 32).toNat : Nat) : Int) = (c.toNat : Int) + 32 := by
  rw [UInt8.toNat_add]
  show (((c.toNat + 32) % 256 : Nat) : Int) = _
  omega

set_option maxHeartbeats 1000000 in
theorem refupper_any (s : ByteArray) (w : World) (hs : s.size ≤ 140737488355327) :
    Calls Tryd.prog 28 #[.string s] w fun e w' => e = .returned (.string ⟨((bsl s).map Lib.upperB).toArray⟩) ∧ Below w.heap.size w w' := by
  go_enter Tryd.func28, Tryd.ntmps28
  go_wp2_with fail
  rw [Lib.run_convert_string_bytes w 9 42 5 s Tryd.underlying9 Tryd.underlying42 Tryd.underlying5]
  have hrow := BRow.start w s
  have hbel := Lib.bytesWorld_below w 5 s
  generalize hW1 : Lib.bytesWorld w 5 s = W1 at hrow hbel ⊢
  clear hW1
  generalize hcap : grownCap w s.size 0 5 = cap
  clear hcap
  have HB1 := Lib.hid hbel
  have HR1 := Lib.hid hrow
  clear hbel hrow
  go_wp2_with fail
  go_loopw [4] (fun i W => ∃ k : Nat, i = .int .i64 k ∧ k ≤ s.size ∧ BRow W w.heap.size (((bsl s).take k).map Lib.upperB ++ (bsl s).drop k) ∧ Below w.heap.size w W) (fun i _ => s.size - (intOf i).toNat)
  case atStart => exact ⟨0, rfl, Nat.zero_le _, by simpa using HR1.out, HB1.out⟩
  case round =>
    obtain ⟨k, rfl, hk, hR, hB⟩ := hrel
    have HR := Lib.hid hR
    have HB := Lib.hid hB
    clear hR hB
    by_cases hlt : k < s.size
    · have hd := bsl_drop_cons s k hlt
      have ht : (bsl s).take (k + 1) = (bsl s).take k ++ [s[k]'hlt] := by rw [List.take_add_one, bsl_get s k hlt]; rfl
      have hl : (((bsl s).take k).map Lib.upperB).length = k := by rw [List.length_map, List.length_take, bsl_length]; omega
      have hc := HR.out.cell k (s[k]'hlt) (by rw [hd, List.getElem?_append_right (by omega), hl]; simp)
      have hf := HR.out.free k (by rw [List.length_append, hl, List.length_drop, bsl_length]; omega)
      have HU := Lib.hid (upperB_eq (s[k]'hlt))
      have HN := Lib.hid (BRow.set HR.out hl hd)
      have HT := Lib.hid ht
      have hc8 := (s[k]'hlt).toNat_lt
      have HD := Lib.hid hd
      generalize s[k]'hlt = c at hc HU HN HT HD hc8
      clear hd hl ht
      by_cases hin : 97 ≤ c.toNat ∧ c.toNat ≤ 122
      · obtain ⟨h1, h2⟩ := hin
        go_wp2_with fail
        go_roundw
        case rel =>
          have hu : Lib.upperB c = c - 32 := by rw [HU.out, if_pos ⟨h1, h2⟩]
          refine ⟨k + 1, by go_num, hlt, ?_, HB.out.setCell (p := ⟨w.heap.size, k, none⟩) (Nat.le_refl _) _⟩
          have := HN.out (Lib.upperB c)
          rw [HT.out, List.map_append, List.append_assoc]
          have e : (((Lib.upperB c).toNat : Nat) : Int) = (c.toNat : Int) - 32 := by rw [hu, u8_sub32 h1]
          rw [e] at this
          exact this
        case measure => simp [intOf]; omega
      · go_wp2_with fail
        all_goals
          go_roundw
          case rel =>
            have hu : Lib.upperB c = c := by rw [HU.out, if_neg hin]
            refine ⟨k + 1, by go_num, hlt, ?_, HB.out⟩
            rw [HT.out, List.map_append, List.append_assoc, List.map_cons, List.map_nil, hu, List.singleton_append, ← HD.out]
            exact HR.out
          case measure => simp [intOf]; omega
    · have hfin : BRow wr w.heap.size ((bsl s).map Lib.upperB) := by
        have := HR.out
        rwa [List.take_of_length_le (by rw [bsl_length]; omega), List.drop_eq_nil_of_le (by rw [bsl_length]; omega), List.append_nil] at this
      go_wp2_with fail
      rw [run_convert_bytes_arg _ 42 5 Tryd.underlying42 Tryd.underlying5 w.heap.size 0 s.size cap (((bsl s).map Lib.upperB).map fun c => (c.toNat : Int)) (by simp [bsl_length]) (fun i hi => hfin.nums i (by rw [List.length_map, bsl_length]; exact hi)) 9 Tryd.underlying9]
      rw [Lib.Lz.strOfNums_map]
      go_wp2_with fail
      go_ret
      exact ⟨rfl, HB.out⟩

set_option maxHeartbeats 1000000 in
theorem reflower_any (s : ByteArray) (w : World) (hs : s.size ≤ 140737488355327) :
    Calls Tryd.prog 30 #[.string s] w fun e w' => e = .returned (.string ⟨((bsl s).map Lib.lowerB).toArray⟩) ∧ Below w.heap.size w w' := by
  go_enter Tryd.func30, Tryd.ntmps30
  go_wp2_with fail
  rw [Lib.run_convert_string_bytes w 9 42 5 s Tryd.underlying9 Tryd.underlying42 Tryd.underlying5]
  have hrow := BRow.start w s
  have hbel := Lib.bytesWorld_below w 5 s
  generalize hW1 : Lib.bytesWorld w 5 s = W1 at hrow hbel ⊢
  clear hW1
  generalize hcap : grownCap w s.size 0 5 = cap
  clear hcap
  have HB1 := Lib.hid hbel
  have HR1 := Lib.hid hrow
  clear hbel hrow
  go_wp2_with fail
  go_loopw [4] (fun i W => ∃ k : Nat, i = .int .i64 k ∧ k ≤ s.size ∧ BRow W w.heap.size (((bsl s).take k).map Lib.lowerB ++ (bsl s).drop k) ∧ Below w.heap.size w W) (fun i _ => s.size - (intOf i).toNat)
  case atStart => exact ⟨0, rfl, Nat.zero_le _, by simpa using HR1.out, HB1.out⟩
  case round =>
    obtain ⟨k, rfl, hk, hR, hB⟩ := hrel
    have HR := Lib.hid hR
    have HB := Lib.hid hB
    clear hR hB
    by_cases hlt : k < s.size
    · have hd := bsl_drop_cons s k hlt
      have ht : (bsl s).take (k + 1) = (bsl s).take k ++ [s[k]'hlt] := by rw [List.take_add_one, bsl_get s k hlt]; rfl
      have hl : (((bsl s).take k).map Lib.lowerB).length = k := by rw [List.length_map, List.length_take, bsl_length]; omega
      have hc := HR.out.cell k (s[k]'hlt) (by rw [hd, List.getElem?_append_right (by omega), hl]; simp)
      have hf := HR.out.free k (by rw [List.length_append, hl, List.length_drop, bsl_length]; omega)
      have HU := Lib.hid (lowerB_eq (s[k]'hlt))
      have HN := Lib.hid (BRow.set HR.out hl hd)
      have HT := Lib.hid ht
      have hc8 := (s[k]'hlt).toNat_lt
      have HD := Lib.hid hd
      generalize s[k]'hlt = c at hc HU HN HT HD hc8
      clear hd hl ht
      by_cases hin : 65 ≤ c.toNat ∧ c.toNat ≤ 90
      · obtain ⟨h1, h2⟩ := hin
        go_wp2_with fail
        go_roundw
        case rel =>
          have hu : Lib.lowerB c = c + 32 := by rw [HU.out, if_pos ⟨h1, h2⟩]
          refine ⟨k + 1, by go_num, hlt, ?_, HB.out.setCell (p := ⟨w.heap.size, k, none⟩) (Nat.le_refl _) _⟩
          have := HN.out (Lib.lowerB c)
          rw [HT.out, List.map_append, List.append_assoc]
          have e : (((Lib.lowerB c).toNat : Nat) : Int) = (c.toNat : Int) + 32 := by rw [hu, u8_add32 h2]
          rw [e] at this
          exact this
        case measure => simp [intOf]; omega
      · go_wp2_with fail
        all_goals
          go_roundw
          case rel =>
            have hu : Lib.lowerB c = c := by rw [HU.out, if_neg hin]
            refine ⟨k + 1, by go_num, hlt, ?_, HB.out⟩
            rw [HT.out, List.map_append, List.append_assoc, List.map_cons, List.map_nil, hu, List.singleton_append, ← HD.out]
            exact HR.out
          case measure => simp [intOf]; omega
    · have hfin : BRow wr w.heap.size ((bsl s).map Lib.lowerB) := by
        have := HR.out
        rwa [List.take_of_length_le (by rw [bsl_length]; omega), List.drop_eq_nil_of_le (by rw [bsl_length]; omega), List.append_nil] at this
      go_wp2_with fail
      rw [run_convert_bytes_arg _ 42 5 Tryd.underlying42 Tryd.underlying5 w.heap.size 0 s.size cap (((bsl s).map Lib.lowerB).map fun c => (c.toNat : Int)) (by simp [bsl_length]) (fun i hi => hfin.nums i (by rw [List.length_map, bsl_length]; exact hi)) 9 Tryd.underlying9]
      rw [Lib.Lz.strOfNums_map]
      go_wp2_with fail
      go_ret
      exact ⟨rfl, HB.out⟩
end Go.Proofs.YtjjmifidjeaefaaDoor
