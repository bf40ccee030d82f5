/-
  As many collations as may be are there, each by its own name, in any letters; one more is refused.
-/
import Derived.Test.YtaoikbpolckobaaGreatDoorRegM
import Derived.Test.YtaoikbpolckobaaGreatDoorRegN
namespace Go.Proofs.YtaoikbpolckobaaGreatDoor
open Go.RowKit Go.Lib
set_option maxRecDepth 100000

theorem tmod12 (n : Int) : ∃ (k : Int) (N : Nat), n.tmod 12 = k ∧ -12 < k ∧ k < 12 ∧ (k + 12).tmod 12 = (N : Int) ∧ N < 12 := by
  have h1 : -12 < n.tmod 12 ∧ n.tmod 12 < 12 := by
    rcases Int.le_total 0 n with h | h
    · rw [Int.tmod_eq_emod_of_nonneg h]; omega
    · have := Int.tmod_eq_emod_of_nonneg (a := -n) (b := 12) (by omega)
      rw [Int.neg_tmod] at this
      omega
  have h2 := Int.tmod_eq_emod_of_nonneg (a := n.tmod 12 + 12) (b := 12) (by omega)
  exact ⟨n.tmod 12, ((n.tmod 12 + 12).tmod 12).toNat, rfl, h1.1, h1.2, by omega, by omega⟩
theorem wrap8b (x : Int) (h0 : 0 ≤ x) (h1 : x < 256) : IntKind.u8.wrap x = x := by
  simp [IntKind.wrap, IntKind.signed, IntKind.bits]
  omega
theorem and1_12 : ∀ i ∈ List.range 12, bits .and .i64 (i : Int) 1 = ((i % 2 : Nat) : Int) := by decide +kernel
theorem colB_at (i : Nat) : [Value.int .u8 99, Value.int .u8 111, Value.int .u8 108, Value.int .u8 (97 + (i : Int))][i % 4]? = some (.int .u8 (((colB i).getD (i % 4) 0 : Nat) : Int)) := by
  have h : i % 4 = 0 ∨ i % 4 = 1 ∨ i % 4 = 2 ∨ i % 4 = 3 := by omega
  rcases h with h | h | h | h <;> simp [h, colB]
theorem conv4 (W : World) (g : Nat) (l : List UInt8) (hl : l.length = 4) (hc : ∀ j, j < 4 → W.cell? ⟨g, j, none⟩ = some (.int .u8 ((l.getD j 0).toNat : Int))) :
    (convert 49 9 (.slice (some ⟨g, 0, none⟩) 4 4)).run Tryz.prog W = .ok (.string ⟨l.toArray⟩) W := by
  have h := run_convert_bytes_back (P := Tryz.prog) W 49 9 5 ⟨g, 0, none⟩ 4 l Tryz.underlying49 Tryz.underlying5 Tryz.underlying9 (fun j hj => by
    rw [Addr.add_lit, Nat.zero_add, hc j (by omega)]
    simp [List.getD_eq_getElem?_getD, hj])
  rw [hl] at h
  exact h
theorem colG_set (i x : Nat) (hi : i < 12) (hx : x = (colB i).getD (i % 4) 0) (j : Nat) (hj : j < 4) : ([Value.int .u8 99, Value.int .u8 111, Value.int .u8 108, Value.int .u8 (97 + (i : Int))].set (i % 4) (.int .u8 ((x : Int) - 32))).toArray[j]? = some (.int .u8 (((colG i true).getD j 0 : Nat) : Int)) := by
  have h : i % 4 = 0 ∨ i % 4 = 1 ∨ i % 4 = 2 ∨ i % 4 = 3 := by omega
  subst hx
  rcases h with h | h | h | h <;> match j, hj with
    | 0, _ => simp [h, colG, colB] <;> omega
    | 1, _ => simp [h, colG, colB] <;> omega
    | 2, _ => simp [h, colG, colB] <;> omega
    | 3, _ => simp [h, colG, colB] <;> omega
theorem entC_eq (p j : Nat) : entC p j = (kN (colM j), clV 3 ((j : Int) % 3 + 1) ((j : Int) % 2 == 1) false (some ⟨p, 0, none⟩)) := by
  unfold entC
  rw [show ((j % 3 + 1 : Nat) : Int) = (j : Int) % 3 + 1 by omega, show decide (j % 2 = 1) = ((j : Int) % 2 == 1) by
    rw [Bool.eq_iff_iff]; simp; omega]
theorem conv1 (W : World) (g : Nat) (b : UInt8) (hc : W.cell? ⟨g, 0, none⟩ = some (.int .u8 (b.toNat : Int))) :
    (convert 49 9 (.slice (some ⟨g, 0, none⟩) 1 1)).run Tryz.prog W = .ok (.string ⟨#[b]⟩) W := by
  have h := run_convert_bytes_back (P := Tryz.prog) W 49 9 5 ⟨g, 0, none⟩ 1 [b] Tryz.underlying49 Tryz.underlying5 Tryz.underlying9 (fun j hj => by
    have : j = 0 := by simpa using hj
    subst this
    rw [Addr.add_lit, Nat.zero_add, hc]
    rfl)
  exact h
theorem colU_cat (b : UInt8) : (⟨#[67, 79, 76]⟩ ++ ⟨#[b]⟩ : ByteArray) = ⟨#[67, 79, 76, b]⟩ := by
  apply ByteArray.ext
  simp [ByteArray.data_append]
theorem colU_byte : ∀ j ∈ List.range 8, ((65 + UInt8.ofNat j).toNat : Int) = 65 + (j : Int) := by decide +kernel
/-- Under way: so many were tried, these are there. -/
structure MnSt (w0 w : World) (q M : Nat) (l0 : List (Value × Value)) (i : Nat) (ps : List Nat) : Prop where
  len : ps.length = min i 8
  regs : RegsAt w q M (l0 ++ entL ps)
  below : Below w0.heap.size w0 w
set_option maxHeartbeats 16000000 in
theorem law_many (n great : Int) (w : World) (hG : Glob w) : Calls Tryz.prog 8 #[.int .i64 n, .int .i64 great] w fun e w' => e = .returned (.bool true) ∧ Below w.heap.size w w' := by
  obtain ⟨k, N, hk, hk1, hk2, hN, hN12⟩ := tmod12 n
  have HG := Lib.hid hG
  clear hG
  go_enter Tryz.func8, Tryz.ntmps8
  repeat (first | go_values | go_skip | go_guarded | go_step | go_upon)
  refine (regnew_regs _).mono ?_
  rintro e w1 ⟨q, M, l0, rfl, hq, hM, hR, hper, hb1⟩
  have HP := Lib.hid hper
  have HMB := Lib.hid hM
  have HS1 := Lib.hid (show MnSt w w1 q M l0 0 [] from ⟨rfl, by simpa [entL] using hR, hb1⟩)
  clear hR hper hb1 hM
  go_simp
  repeat (first | go_values | go_skip | go_guarded | go_step | go_upon)
  go_loopw [4, 6] (fun _ v wr => ∃ (i : Nat) (ps : List Nat), v = .int .i64 i ∧ i ≤ N ∧ MnSt w wr q M l0 i ps) (fun _ v _ => N - (intOf v).toNat)
  case atStart => exact ⟨0, [], rfl, Nat.zero_le _, HS1.out⟩
  case round =>
    obtain ⟨i, ps, rfl, hiN, hr⟩ := hrel
    have HR1 := Lib.hid hr
    clear hr
    by_cases hlt : i < N
    · have hi12 : (i : Int) < 12 := by omega
      have hi12' : i < 12 := by omega
      have hw0 : IntKind.u8.wrap (i : Int) = (i : Int) := wrap8b _ (by omega) (by omega)
      have hw1 : IntKind.u8.wrap (97 + (i : Int)) = ((97 + i : Nat) : Int) := by rw [wrap8b _ (by omega) (by omega)]; omega
      have ha1 := and1_12 i (List.mem_range.2 hi12')
      cases hbit : (bits BinOp.and IntKind.i64 (great / 2 ^ i) 1 == 1)
      · go_simp
        repeat (first | go_values | go_skip | go_guarded | go_step | go_upon)
        have hC : ∀ j, j < 4 → (wr.alloc (.cells #[.int .u8 99, .int .u8 111, .int .u8 108, .int .u8 (97 + (i : Int))] 5)).cell? ⟨wr.heap.size, j, none⟩ = some (.int .u8 (((colT i false).getD j 0).toNat : Int)) := by
          intro j hj
          obtain ⟨k1, k2, k3, _⟩ := colG_ok i (List.mem_range.2 hi12') false
          rw [(Blk.new wr _ 5 rfl).cell, k2 j (List.mem_range.2 hj)]
          match j, hj with
          | 0, _ => rfl
          | 1, _ => rfl
          | 2, _ => rfl
          | 3, _ => simp [colG, colB]
        rw [conv4 _ _ (colT i false) (colG_ok i (List.mem_range.2 hi12') false).2.2.1 hC]
        have hE : Ext wr (wr.alloc (.cells #[.int .u8 99, .int .u8 111, .int .u8 108, .int .u8 (97 + (i : Int))] 5)) := (Ext.refl _).alloc _
        generalize (wr.alloc (.cells #[.int .u8 99, .int .u8 111, .int .u8 108, .int .u8 (97 + (i : Int))] 5)) = W5 at hC hE ⊢
        have hbel : Below w.heap.size w W5 := HR1.out.below.trans (hE.mono HR1.out.below.size)
        have HNm := Lib.hid (col_name i hi12' false W5 (HG.out.keep hbel))
        have hnew := ent_new HP.out (ps := ps) (i := i) (by rw [HR1.out.len]; omega) hi12'
        have hR5 := HR1.out.regs.ext hE
        have hll : (l0 ++ entL ps).length = 3 + min i 8 := by
          have := HP.out.length_eq
          simp at this
          rw [List.length_append, entL_length, HR1.out.len, this]
        have HBel := Lib.hid hbel
        have HNew := Lib.hid hnew
        have HR5 := Lib.hid hR5
        have HLL := Lib.hid hll
        clear hC hE hbel hnew hR5 hll
        go_simp
        repeat (first | go_values | go_skip | go_guarded | go_step | go_upon)
        by_cases h8 : i < 8
        · have h8' : (i : Int) < 8 := by omega
          refine (add_ok q M w.heap.size (l0 ++ entL ps) _ (colM i) ((i : Int) % 3 + 1) ((i : Int) % 2 == 1) W5 HMB.out HBel.out.size HR5.out HNm.out HNew.out (by show 4 ≤ maxLen; decide) (by omega) (by omega) (by rw [HLL.out]; omega)).mono ?_
          rintro e w6 ⟨rfl, ⟨p, hR6⟩, hb6⟩
          have HZ := Lib.hid (show MnSt w w6 q M l0 (i + 1) (ps ++ [p]) from ⟨by rw [List.length_append, HR1.out.len]; simp; omega, by rw [entL_snoc, ← List.append_assoc, entC_eq, HR1.out.len, show min i 8 = i by omega]; exact hR6, HBel.out.trans hb6⟩)
          clear hR6 hb6
          go_simp
          go_wp2_with fail
          go_roundw
          case rel => exact ⟨i + 1, by go_num, by omega, ps ++ [p], HZ.out⟩
          case measure => simp [intOf]; omega
        · have h8' : ¬ (i : Int) < 8 := by omega
          refine (add_full q M (l0 ++ entL ps) _ (colM i) ((i : Int) % 3 + 1) ((i : Int) % 2 == 1) W5 HR5.out HNm.out HNew.out (by show 4 ≤ maxLen; decide) (by rw [HLL.out]; omega)).mono ?_
          rintro e w6 ⟨rfl, hb6⟩
          have HZ := Lib.hid (show MnSt w w6 q M l0 (i + 1) ps from ⟨by rw [HR1.out.len]; omega, HR5.out.ext hb6, HBel.out.trans (hb6.mono HBel.out.size)⟩)
          clear hb6
          go_simp
          go_wp2_with fail
          go_roundw
          case rel => exact ⟨i + 1, by go_num, by omega, ps, HZ.out⟩
          case measure => simp [intOf]; omega
      · obtain ⟨g1, g2, g3, g4, g5, g6⟩ := colG_ok i (List.mem_range.2 hi12') true
        have hx := colB_at i
        obtain ⟨x, hxe⟩ : ∃ x, x = (colB i).getD (i % 4) 0 := ⟨_, rfl⟩
        rw [← hxe] at hx g4 g5 g6
        have hm : ((x : Int) - 32) % 256 = (x : Int) - 32 := by omega
        have hX := Lib.hid hxe
        have HG3 := Lib.hid (And.intro g2 g3)
        clear g1 g2 g3 g4 g5 g6 hxe
        go_simp
        repeat (first | go_values | go_skip | go_guarded | go_step | go_upon)
        have hC : ∀ j, j < 4 → (wr.alloc (.cells ([Value.int .u8 99, Value.int .u8 111, Value.int .u8 108, Value.int .u8 (97 + (i : Int))].set (i % 4) (.int .u8 ((x : Int) - 32))).toArray 5)).cell? ⟨wr.heap.size, j, none⟩ = some (.int .u8 (((colT i true).getD j 0).toNat : Int)) := by
          intro j hj
          rw [(Blk.new wr _ 5 rfl).cell, HG3.out.1 j (List.mem_range.2 hj)]
          exact colG_set i x hi12' hX.out j hj
        rw [conv4 _ _ (colT i true) HG3.out.2 hC]
        have hE : Ext wr (wr.alloc (.cells ([Value.int .u8 99, Value.int .u8 111, Value.int .u8 108, Value.int .u8 (97 + (i : Int))].set (i % 4) (.int .u8 ((x : Int) - 32))).toArray 5)) := (Ext.refl _).alloc _
        generalize (wr.alloc (.cells ([Value.int .u8 99, Value.int .u8 111, Value.int .u8 108, Value.int .u8 (97 + (i : Int))].set (i % 4) (.int .u8 ((x : Int) - 32))).toArray 5)) = W5 at hC hE ⊢
        have hbel : Below w.heap.size w W5 := HR1.out.below.trans (hE.mono HR1.out.below.size)
        have HNm := Lib.hid (col_name i hi12' true W5 (HG.out.keep hbel))
        have hnew := ent_new HP.out (ps := ps) (i := i) (by rw [HR1.out.len]; omega) hi12'
        have hR5 := HR1.out.regs.ext hE
        have hll : (l0 ++ entL ps).length = 3 + min i 8 := by
          have := HP.out.length_eq
          simp at this
          rw [List.length_append, entL_length, HR1.out.len, this]
        have HBel := Lib.hid hbel
        have HNew := Lib.hid hnew
        have HR5 := Lib.hid hR5
        have HLL := Lib.hid hll
        clear hC hE hbel hnew hR5 hll
        go_simp
        repeat (first | go_values | go_skip | go_guarded | go_step | go_upon)
        by_cases h8 : i < 8
        · have h8' : (i : Int) < 8 := by omega
          refine (add_ok q M w.heap.size (l0 ++ entL ps) _ (colM i) ((i : Int) % 3 + 1) ((i : Int) % 2 == 1) W5 HMB.out HBel.out.size HR5.out HNm.out HNew.out (by show 4 ≤ maxLen; decide) (by omega) (by omega) (by rw [HLL.out]; omega)).mono ?_
          rintro e w6 ⟨rfl, ⟨p, hR6⟩, hb6⟩
          have HZ := Lib.hid (show MnSt w w6 q M l0 (i + 1) (ps ++ [p]) from ⟨by rw [List.length_append, HR1.out.len]; simp; omega, by rw [entL_snoc, ← List.append_assoc, entC_eq, HR1.out.len, show min i 8 = i by omega]; exact hR6, HBel.out.trans hb6⟩)
          clear hR6 hb6
          go_simp
          go_wp2_with fail
          go_roundw
          case rel => exact ⟨i + 1, by go_num, by omega, ps ++ [p], HZ.out⟩
          case measure => simp [intOf]; omega
        · have h8' : ¬ (i : Int) < 8 := by omega
          refine (add_full q M (l0 ++ entL ps) _ (colM i) ((i : Int) % 3 + 1) ((i : Int) % 2 == 1) W5 HR5.out HNm.out HNew.out (by show 4 ≤ maxLen; decide) (by rw [HLL.out]; omega)).mono ?_
          rintro e w6 ⟨rfl, hb6⟩
          have HZ := Lib.hid (show MnSt w w6 q M l0 (i + 1) ps from ⟨by rw [HR1.out.len]; omega, HR5.out.ext hb6, HBel.out.trans (hb6.mono HBel.out.size)⟩)
          clear hb6
          go_simp
          go_wp2_with fail
          go_roundw
          case rel => exact ⟨i + 1, by go_num, by omega, ps, HZ.out⟩
          case measure => simp [intOf]; omega
    · obtain rfl : i = N := by omega
      obtain ⟨K, hK, hK8⟩ : ∃ K : Nat, K = min i 8 ∧ K ≤ 8 := ⟨_, rfl, by omega⟩
      have hmin : min (i : Int) 8 = (K : Int) := by omega
      have HR2 := Lib.hid HR1.out.regs
      have HB2 := Lib.hid HR1.out.below
      have HLp := Lib.hid (HR1.out.len.trans hK.symm)
      clear HR1 hK
      go_simp
      repeat (first | go_values | go_skip | go_guarded | go_step | go_upon)
      go_loopw [4, 11] (fun _ v wq => ∃ j : Nat, v = .int .i64 j ∧ j ≤ K ∧ RegsAt wq q M (l0 ++ entL ps) ∧ Below w.heap.size w wq) (fun _ v _ => K - (intOf v).toNat)
      case atStart => exact ⟨0, rfl, Nat.zero_le _, HR2.out, HB2.out⟩
      case round =>
        obtain ⟨j, rfl, hjK, hr, hb⟩ := hrel
        have HR3 := Lib.hid hr
        have HB3 := Lib.hid hb
        clear hr hb
        by_cases hjl : j < K
        · have hj8 : j < 8 := by omega
          have hj8' : (j : Int) < 8 := by omega
          have hw0 : IntKind.u8.wrap (j : Int) = (j : Int) := wrap8b _ (by omega) (by omega)
          have hw1 : IntKind.u8.wrap (65 + (j : Int)) = 65 + (j : Int) := wrap8b _ (by omega) (by omega)
          have ha1 := and1_12 j (List.mem_range.2 (by omega))
          obtain ⟨p, hp⟩ := entL_mem (ps := ps) (j := j) (by rw [HLp.out]; exact hjl)
          rw [entC_eq] at hp
          have HPm := Lib.hid (List.mem_append.2 (.inr hp) : _ ∈ l0 ++ entL ps)
          clear hp
          go_simp
          repeat (first | go_values | go_skip | go_guarded | go_step | go_upon)
          rw [conv1 _ _ (65 + UInt8.ofNat j) (by rw [(Blk.new wr _ 5 rfl).cell, colU_byte j (List.mem_range.2 hj8)]; rfl)]
          have hE : Ext wr (wr.alloc (.cells #[.int .u8 (65 + (j : Int))] 5)) := (Ext.refl _).alloc _
          generalize (wr.alloc (.cells #[.int .u8 (65 + (j : Int))] 5)) = W5 at hE ⊢
          have HE := Lib.hid hE
          have HB5 : Hid (Below w.heap.size w W5) := Lib.hid (HB3.out.trans (hE.mono HB3.out.size))
          clear hE
          go_simp
          repeat (first | go_values | go_skip | go_guarded | go_step | go_upon)
          rw [colU_cat]
          refine (get_hit q M (l0 ++ entL ps) _ (colM j) 3 ((j : Int) % 3 + 1) ((j : Int) % 2 == 1) false (some ⟨p, 0, none⟩) W5 (HR3.out.ext HE.out) (fun W hW => colU_name j hj8 W (HG.out.keep (HB5.out.trans (hW.mono HB5.out.size)))) HPm.out).mono ?_
          rintro e w6 ⟨rfl, hb6⟩
          have HZ := Lib.hid (show ∀ o : Obj, RegsAt (w6.alloc o) q M (l0 ++ entL ps) ∧ Below w.heap.size w (w6.alloc o) from fun o =>
            ⟨((HR3.out.ext HE.out).ext hb6).ext ((Ext.refl _).alloc _), (HB5.out.trans (hb6.mono HB5.out.size)).alloc (HB5.out.trans (hb6.mono HB5.out.size)).size _⟩)
          clear hb6
          rw [show clV 3 ((j : Int) % 3 + 1) ((j : Int) % 2 == 1) false (some ⟨p, 0, none⟩) = .agg #[.int .i64 3, .int .i64 ((j : Int) % 3 + 1), .bool ((j : Int) % 2 == 1), .bool false, .pointer (some ⟨p, 0, none⟩)] from rfl]
          go_simp
          go_wp2_with fail
          go_roundw
          case rel =>
            refine ⟨_, _, ⟨j + 1, ?_, by omega, (HZ.out _).1, (HZ.out _).2⟩, _, _, _, _, _, _, _, _, _, _, _, _, _, _, _, _, _, _, _, _, _, _, _, _, _, _, _, _, _, _, _, _, _, _, _, _, _, _, _, _, _, rfl⟩
            go_num
          case measure => simp [intOf]; omega
        · obtain rfl : j = K := by omega
          go_simp
          repeat (first | go_values | go_skip | go_guarded | go_step | go_upon)
          have hl3 : l0.length = 3 := by simpa using HP.out.length_eq
          refine (names_any q M (j + 2) (l0 ++ entL ps) _ HR3.out (fun x hx => by
            rcases List.mem_append.1 hx with h | h
            · obtain ⟨s, _, h⟩ := List.mem_map.1 (HP.out.mem_iff.1 (List.mem_map.2 ⟨x, h, rfl⟩))
              exact ⟨s, h.symm⟩
            · obtain ⟨p, k, _, rfl⟩ := entL_key h
              exact ⟨_, rfl⟩) (by rw [List.length_append, entL_length, HLp.out, hl3]; omega) (by omega)).mono ?_
          rintro e w7 ⟨g, ds, rfl, _, _, hb7⟩
          have HB7 : Hid (Below w.heap.size w w7) := Lib.hid (HB3.out.trans (hb7.mono HB3.out.size))
          clear hb7
          obtain ⟨n', hn'⟩ : ∃ n', n' = j + 2 + 1 := ⟨_, rfl⟩
          rw [← hn']
          have hq2 : ((n' : Int) == 3 + (j : Int)) = true := by simp; omega
          go_simp
          repeat (first | go_values | go_skip | go_guarded | go_step | go_upon)
          refine (awake10_any w7 (HG.out.keep HB7.out)).mono ?_
          rintro e w8 ⟨rfl, hb8⟩
          have HB8 : Hid (Below w.heap.size w w8) := Lib.hid (HB7.out.trans (hb8.mono HB7.out.size))
          clear hb8
          go_simp
          repeat (first | go_values | go_skip | go_guarded | go_step | go_upon)
          go_ret
          exact ⟨rfl, HB8.out⟩
end Go.Proofs.YtaoikbpolckobaaGreatDoor
