/-
  A text's signs (utext.sign, utext.Signs): what the program tells is the plain list of them.
-/
import Derived.Test.YtipokgedmfnlaaaGreatDoorRead
import Derived.Test.YtipokgedmfnlaaaGreatDoorShelf
namespace Go.Proofs.YtipokgedmfnlaaaGreatDoor
open Go.RowKit Go.Lib
set_option maxRecDepth 100000

theorem get_nb (s : ByteArray) (i : Nat) : (s.get! i).toNat = nb s.data.toList i := by
  obtain ⟨d⟩ := s
  show (d[i]!).toNat = _
  unfold nb
  rw [List.getD_eq_getElem?_getD, Array.getElem?_toList, Array.getElem!_eq_getD, Array.getD_eq_getD_getElem?]
  rfl
theorem sgn_go (s : ByteArray) (h : 0 < s.size) : sgn s.data.toList = if (decodeGo s).1 = 65533 ∧ (decodeGo s).2 = 1 then (1114112 + (s[0]'h).toNat, 1) else decodeGo s := by
  have h0 : s.size ≠ 0 := by omega
  have hd : decodeGo s = decodeN s.data.toList.length (nb s.data.toList 0) (nb s.data.toList 1) (nb s.data.toList 2) (nb s.data.toList 3) := by
    unfold decodeGo
    rw [if_neg h0, decode_at, get_nb, get_nb, get_nb, get_nb, Array.length_toList]
    rfl
  have hb : (s[0]'h).toNat = nb s.data.toList 0 := by
    rw [← get_nb]
    simp [ByteArray.get!, ByteArray.getElem_eq_getElem_data, getElem!_pos, h]
  unfold sgn sgnN
  rw [hb, hd]
theorem i32_i64 (x : Nat) (h : x ≤ 1114111) : IntKind.i64.wrap (x : Int) = (x : Int) := by
  simp [IntKind.wrap, IntKind.signed, IntKind.bits]
  omega
theorem decodeN_le (n b0 b1 b2 b3 : Nat) : (decodeN n b0 b1 b2 b3).1 ≤ 1114111 := by
  unfold decodeN
  repeat' split
  all_goals simp at *
  all_goals omega
theorem go_le (s : ByteArray) : (decodeGo s).1 ≤ 1114111 := by
  unfold decodeGo
  split
  · simp
  · rw [decode_at]; exact decodeN_le _ _ _ _ _
set_option maxHeartbeats 1000000 in
theorem sign_any (s : ByteArray) (h : 0 < s.size) (w : World) (hT : Lib.Utf8Tabs 0 1 w) :
    Calls Tryz.prog 171 #[.string s] w fun e w' => e = .returned (.tuple #[.int .i64 ((sgn s.data.toList).1 : Nat), .int .i64 ((sgn s.data.toList).2 : Nat)]) ∧ Below w.heap.size w w' := by
  have hs := sgn_go s h
  have hD := Tryz.utf8_DecodeRuneInString s w hT
  have hle := go_le s
  generalize decodeGo s = rn at hs hD hle
  obtain ⟨r, n⟩ := rn
  simp only at hs hD hle
  have HD := Lib.hid hD
  have hwr := i32_i64 r hle
  clear hD hT
  have hb0 : ((s[0]'h).toNat : Int) < 256 := by have := (s[0]'h).toNat_lt; omega
  by_cases h1 : r = 65533 ∧ n = 1
  · rw [if_pos h1] at hs
    rw [hs]
    obtain ⟨rfl, rfl⟩ := h1
    clear hs
    go_enter Tryz.func171, Tryz.ntmps171
    go_wp2_with fail
    refine HD.out.mono ?_
    rintro e w2 ⟨rfl, hb⟩
    have HB := Lib.hid hb
    clear hb
    go_simp
    go_wp2_with fail
    go_ret2
    exact ⟨by simp <;> omega, HB.out⟩
  · rw [if_neg h1] at hs
    rw [hs]
    clear hs
    have hc : ((r : Int) == 65533) = false ∨ ((r : Int) == 65533) = true ∧ ((n : Int) == 1) = false := by
      by_cases hr : r = 65533
      · right
        subst hr
        exact ⟨rfl, by simp; omega⟩
      · left
        simp; omega
    rcases hc with hc | ⟨hc, hc2⟩
    · go_enter Tryz.func171, Tryz.ntmps171
      go_wp2_with fail
      refine HD.out.mono ?_
      rintro e w2 ⟨rfl, hb⟩
      have HB := Lib.hid hb
      clear hb
      go_simp
      go_wp2_with fail
      go_ret2
      exact ⟨by simp <;> omega, HB.out⟩
    · go_enter Tryz.func171, Tryz.ntmps171
      go_wp2_with fail
      refine HD.out.mono ?_
      rintro e w2 ⟨rfl, hb⟩
      have HB := Lib.hid hb
      clear hb
      go_simp
      go_wp2_with fail
      go_ret2
      exact ⟨by simp <;> omega, HB.out⟩
/-- A slice of cells that the call has made: as long as its cap. -/
def RowIn (w : World) (B : Nat) (t : TypeId) (v : Value) (xs : List Value) : Prop :=
  (v = .slice none 0 0 ∧ xs = []) ∨ ∃ g cur, v = .slice (some ⟨g, 0, none⟩) xs.length xs.length ∧ B ≤ g ∧ Blk w g cur t ∧ xs.length ≤ cur.size ∧ ∀ (j : Nat) (u : Value), xs[j]? = some u → cur[j]? = some u
theorem RowIn.reads {w : World} {B : Nat} {t : TypeId} {v : Value} {xs : List Value} (h : RowIn w B t v xs) : ReadsL w v xs := by
  rcases h with h | ⟨g, cur, h1, _, h3, _, h5⟩
  · exact .inl h
  · exact .inr ⟨g, _, h1, Nat.le_refl _, fun j u hu => by rw [h3.cell]; exact h5 j u hu⟩
theorem RowIn.ext {w w' : World} {B : Nat} {t : TypeId} {v : Value} {xs : List Value} (h : RowIn w B t v xs) (hx : Ext w w') : RowIn w' B t v xs := by
  rcases h with h | ⟨g, cur, h1, h2, h3, h4, h5⟩
  · exact .inl h
  · exact .inr ⟨g, cur, h1, h2, h3.keep hx, h4, h5⟩
theorem row_clip {w : World} {B : Nat} {t : TypeId} {v : Value} {n : Nat} {xs : List Value} (h : w.ownsRow B t 1 v n xs) : RowIn w B t (clip v) xs := by
  have hl := h.1
  rcases h.2 with ⟨rfl, rfl⟩ | ⟨g, cap, cur, rfl, hb, hh, hnc, hcm, hcs, htake⟩
  · exact .inl ⟨rfl, List.eq_nil_of_length_eq_zero (by simpa using hl)⟩
  · obtain rfl : n = xs.length := by omega
    have hc : ∀ (j : Nat) (u : Value), xs[j]? = some u → cur[j]? = some u := fun j u hu => by
      have hj : j < xs.length := (List.getElem?_eq_some_iff.1 hu).1
      have h1 := h.cellAt j (by omega)
      rw [hu] at h1
      simpa [World.cell?, hh] using h1
    refine .inr ⟨g, cur, rfl, hb, hh, ?_, hc⟩
    rcases Nat.eq_zero_or_pos xs.length with h0 | h0
    · omega
    · have hlast : xs[xs.length - 1]? = some xs[xs.length - 1] := List.getElem?_eq_getElem (by omega)
      have := (Array.getElem?_eq_some_iff.1 (hc _ _ hlast)).1
      omega
/-- slices.Clip of ints. -/
theorem clipI_any (g n cap : Nat) (h : n ≤ cap) (w : World) : Calls Tryz.prog 51 #[.slice (some ⟨g, 0, none⟩) n cap] w fun e w' => e = .returned (.slice (some ⟨g, 0, none⟩) n n) ∧ w = w' := by
  go_enter Tryz.func51, Tryz.ntmps51
  go_wp2_with fail
  go_ret
  exact ⟨rfl, rfl⟩
theorem clip_own {w : World} {B n : Nat} {v : Value} {xs : List Value} (h : w.ownsRow B 3 1 v n xs) : Calls Tryz.prog 51 #[v] w fun e w' => e = .returned (clip v) ∧ w = w' := by
  rcases h.2 with ⟨rfl, rfl⟩ | ⟨g, cap, cur, rfl, hb, hh, hnc, hcm, hcs, htake⟩
  · exact clip_none w
  · exact clipI_any g n cap hnc w
def intsV (l : List Nat) : List Value := l.map fun c : Nat => .int .i64 (c : Int)
theorem intsV_snoc (l : List Nat) (c : Nat) : intsV (l ++ [c]) = intsV l ++ [.int .i64 (c : Int)] := by simp [intsV]
theorem intsV_length (l : List Nat) : (intsV l).length = l.length := by simp [intsV]
/-- Under way: these signs are told, this text is left. -/
structure SgnSt (w0 w : World) (s t : ByteArray) (ds : List Nat) (v : Value) : Prop where
  all : signs s.data.toList = ds ++ signs t.data.toList
  size : t.size ≤ s.size
  row : w.ownsRow w0.heap.size 3 1 v ds.length (intsV ds)
  below : Below w0.heap.size w0 w
set_option maxHeartbeats 4000000 in
theorem signs_any (s : ByteArray) (hs : s.size ≤ 1000000) (w : World) (hT : ∀ W, Ext w W → Lib.Utf8Tabs 0 1 W) :
    Calls Tryz.prog 116 #[.string s] w fun e w' => ∃ v, e = .returned v ∧ RowIn w' w.heap.size 3 v (intsV (signs s.data.toList)) ∧ Below w.heap.size w w' := by
  have HT := Lib.hid hT
  clear hT
  go_enter Tryz.func116, Tryz.ntmps116
  go_wp2_with fail
  go_loopw [0, 3] (fun tv v wr => ∃ t ds, tv = .string t ∧ SgnSt w wr s t ds v) (fun tv _ _ => match tv with | .string t => t.size | _ => 0)
  case atStart => exact ⟨s, [], rfl, rfl, Nat.le_refl _, World.ownsRow_nil _ _ _ _, Below.refl _ _⟩
  case round =>
    obtain ⟨t, ds, rfl, hr⟩ := hrel
    have HR := Lib.hid hr
    clear hr
    by_cases h0 : 0 < t.size
    · have h0' : (0 : Int) < t.size := by omega
      go_wp2_with fail
      refine (sign_any t h0 wr (HT.out wr HR.out.below)).mono ?_
      rintro e w2 ⟨rfl, hb2⟩
      have hne : t.data.toList ≠ [] := by
        intro h
        have : t.data.size = 0 := by rw [← Array.length_toList, h]; rfl
        have h2 : t.size = t.data.size := rfl
        omega
      have hok := sgn_ok t.data.toList hne
      have hcons := signs_cons t.data.toList hne
      have hall := HR.out.all
      rw [hcons] at hall
      have hdl : (ds ++ (sgn t.data.toList).1 :: signs (t.data.toList.drop (sgn t.data.toList).2)).length ≤ 1000000 := by
        rw [← hall]
        have h1 := signs_length s.data.toList
        rw [Array.length_toList] at h1
        exact Nat.le_trans h1 hs
      have hdrop : (t.extract (sgn t.data.toList).2 t.size).data.toList = t.data.toList.drop (sgn t.data.toList).2 := by
        rw [ByteArray.data_extract, Array.toList_extract, List.extract_eq_take_drop]
        refine List.take_of_length_le ?_
        rw [List.length_drop, Array.length_toList]
        exact Nat.le_refl _
      have hn2 : (sgn t.data.toList).2 ≤ t.size := by
        have := hok.2.1
        rwa [Array.length_toList] at this
      generalize sgn t.data.toList = cn at hok hall hdl hdrop hn2 ⊢
      obtain ⟨c, n⟩ := cn
      simp only at hok hall hdl hdrop hn2 ⊢
      have hn1 := hok.1
      have hnI : (n : Int) ≤ t.size := by omega
      have hcl := hok.2.2.2
      have HRow := Lib.hid (ownsRow_ext HR.out.row hb2)
      have HB2 : Hid (Below w.heap.size w w2) := Lib.hid (HR.out.below.trans (hb2.mono HR.out.below.size))
      have HZ := Lib.hid (show ∀ w5 v5, w5.ownsRow w.heap.size 3 1 v5 (ds.length + 1) (intsV ds ++ [.int .i64 (c : Int)]) → Below w.heap.size w w5 → SgnSt w w5 s (t.extract n t.size) (ds ++ [c]) v5 from
        fun w5 v5 h1 h2 => ⟨by rw [hall, hdrop]; simp, by simp [ByteArray.size_extract]; have := HR.out.size; omega, by rw [intsV_snoc, List.length_append]; exact h1, h2⟩)
      have hdl2 : ds.length ≤ 1000000 := by simp at hdl; omega
      clear hok hall hdl hdrop hcons hne hb2
      go_wp2_with (at_builtin; refine wpList_push rfl _ _ _ rfl w.heap.size 3 (.int .i64 0) 1 8 Tryz.underlying40 infoInt1 rfl (by decide) u3 ds.length (intsV ds) rfl (HRow.out.alloc _) w2.heap.size 3 #[.int .i64 (c : Int)] rfl (Blk.new _ _ _ rfl) rfl (by simp [Value.oneCell']) (by unfold maxLen; omega) (by omega) (by have := HB2.out.size; simp <;> omega) ?_; intro v5 w5 hown hgr hat)
      have HZ5 := Lib.hid (HZ.out w5 v5 hown ((HB2.out.alloc HB2.out.size _).grown hgr (by have := HB2.out.size; simp <;> omega) (fun k hk => by
        rcases HRow.out.2 with ⟨e, _⟩ | ⟨g', _, _, e, hB, _⟩
        · rw [e] at hk; simp [Value.ownBlock] at hk
        · rw [e] at hk; simp [Value.ownBlock] at hk; omega)))
      clear hown hgr hat
      go_wp2_with fail
      go_roundw
      case rel => exact ⟨_, _, rfl, HZ5.out⟩
      case measure => simp [ByteArray.size_extract]; omega
    · have ht0 : t.data.toList = [] := by
        have h2 : t.size = t.data.size := rfl
        exact List.eq_nil_of_length_eq_zero (by rw [Array.length_toList]; omega)
      have hall := HR.out.all
      rw [ht0, signs_nil, List.append_nil] at hall
      have hsz : t.size = 0 := by omega
      have HF := Lib.hid (show RowIn wr w.heap.size 3 (clip u3) (intsV (signs s.data.toList)) from by rw [hall]; exact row_clip HR.out.row)
      clear ht0 hall
      go_wp2_with fail
      refine (clip_own HR.out.row).mono ?_
      rintro e w2 ⟨rfl, rfl⟩
      go_wp2_with fail
      go_ret
      exact ⟨_, rfl, HF.out, HR.out.below⟩
end Go.Proofs.YtipokgedmfnlaaaGreatDoor
