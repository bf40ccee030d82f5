/-
  The document's numbers in full: product by ten, numeral, reading of a numeral (umlautref1.Mul, Text, Parse).
-/
import Derived.Test.YtbdaebjpgdpcnaaGreatDoorPrintP
import Derived.Test.YtbdaebjpgdpcnaaGreatDoorValB
namespace Go.Proofs.YtbdaebjpgdpcnaaGreatDoor
open Go.RowKit
set_option maxRecDepth 100000

theorem refsub_ten (w : World) : Calls Tryz.prog 210 #[.int .i64 0, .int .i64 10] w fun e w' => e = .returned (.tuple #[.int .i64 (-10), .int .i64 0]) ∧ w = w' := by
  go_enter Tryz.func210, Tryz.ntmps210
  go_wp2_with fail
  go_ret2
  exact ⟨rfl, rfl⟩
theorem refneg_ten (w : World) : Calls Tryz.prog 123 #[.int .i64 10] w fun e w' => e = .returned (.tuple #[.int .i64 (-10), .int .i64 0]) ∧ w = w' := by
  go_enter Tryz.func123, Tryz.ntmps123
  go_wp2_with fail
  refine (refsub_ten w).mono ?_
  rintro e w' ⟨rfl, rfl⟩
  go_wp2_with fail
  go_ret2
  exact ⟨rfl, rfl⟩
theorem mulZ_fits (a : Int) (h : InR (a * 10)) : wrap64 (a * 10) = a * 10 ∧ wrap64 ((a * 10).tdiv 10) = a := by
  obtain ⟨h1, h2⟩ := h
  have e : (a * 10).tdiv 10 = a := Int.mul_tdiv_cancel a (by decide)
  rw [e]
  exact ⟨wrap64_of (by omega) (by omega), wrap64_of (by omega) (by omega)⟩
theorem mulZ_over (a : Int) (h : ¬ InR (a * 10)) : (wrap64 ((wrap64 (a * 10)).tdiv 10) == a) = false := by
  have hp := wrap64_bounds (a * 10)
  generalize wrap64 (a * 10) = p at hp ⊢
  have ht : -922337203685477580 ≤ p.tdiv 10 ∧ p.tdiv 10 ≤ 922337203685477580 := by
    rcases Int.le_total 0 p with h0 | h0
    · rw [Int.tdiv_eq_ediv_of_nonneg h0]; omega
    · have e : p.tdiv 10 = -((-p).tdiv 10) := by rw [Int.neg_tdiv]; omega
      rw [e, Int.tdiv_eq_ediv_of_nonneg (by omega)]; omega
  rw [wrap64_of (by omega) (by omega), beq_eq_false_iff_ne]
  intro e
  exact h ⟨by omega, by omega⟩
set_option maxHeartbeats 1000000 in
theorem refmulZ_any (a : Int) (w : World) (ha : InR a) :
    Calls Tryz.prog 65 #[.int .i64 a, .int .i64 10] w fun e w' => e = .returned (if InR (a * 10) then .tuple #[.int .i64 (a * 10), .int .i64 0] else .tuple #[.int .i64 0, .int .i64 17]) ∧ w = w' := by
  obtain ⟨ha1, ha2⟩ := ha
  by_cases h0 : a = 0
  · subst h0
    rw [if_pos (show InR (0 * 10) by unfold InR; decide)]
    go_enter Tryz.func65, Tryz.ntmps65
    go_wp2_with fail
    go_ret2
    exact ⟨rfl, rfl⟩
  by_cases h1 : a = -1
  · subst h1
    rw [if_pos (show InR (-1 * 10) by unfold InR; decide)]
    go_enter Tryz.func65, Tryz.ntmps65
    go_wp2_with fail
    refine (refneg_ten w).mono ?_
    rintro e w' ⟨rfl, rfl⟩
    go_wp2_with fail
    go_ret2
    exact ⟨rfl, rfl⟩
  have b0 : (a == 0) = false := by rw [beq_eq_false_iff_ne]; exact h0
  have b1 : (a == -1) = false := by rw [beq_eq_false_iff_ne]; exact h1
  by_cases h : InR (a * 10)
  · obtain ⟨e1, e2⟩ := mulZ_fits a h
    simp only [if_pos h]
    clear h
    go_enter Tryz.func65, Tryz.ntmps65
    go_wp2_with fail
    all_goals (go_ret2; first | exact ⟨rfl, rfl⟩ | exact ⟨by simp [e1], rfl⟩)
  · have e := mulZ_over a h
    simp only [if_neg h]
    clear h
    go_enter Tryz.func65, Tryz.ntmps65
    go_wp2_with fail
    all_goals (go_ret2; exact ⟨rfl, rfl⟩)

/-! ### The numeral -/
theorem dec_step (X : Nat) (h : 9 < X) : Lib.decDigits X = Lib.decDigits (X / 10) ++ [UInt8.ofNat (48 + X % 10)] := by
  rw [Lib.decDigits, dif_neg (by omega)]
theorem dig_add (k : Nat) (h : k < 10) : UInt8.ofNat (48 + k) = 48 + UInt8.ofNat k := by
  have : ∀ k : Fin 10, UInt8.ofNat (48 + k.val) = 48 + UInt8.ofNat k.val := by decide +kernel
  exact this ⟨k, h⟩
theorem bsl_dropZ (s : ByteArray) (k : Nat) (h : k < s.size) : (bsl s).drop k = s[k]'h :: (bsl s).drop (k + 1) := by
  have h1 := bsl_get s k h
  have h2 : k < (bsl s).length := by rw [bsl_length]; exact h
  rw [List.getElem?_eq_getElem h2] at h1
  rw [List.drop_eq_getElem_cons h2, Option.some.inj h1]
theorem dec_len (n : Nat) (h : n ≤ 9223372036854775808) : (Lib.decDigits n).length ≤ 22 := by
  have h1 := Lib.itoa_length_le (-(n : Int)) (by omega) (by omega)
  rcases Nat.eq_zero_or_pos n with h0 | h0
  · subst h0; rw [Lib.decDigits]; decide
  · rw [Lib.itoa_neg n h0] at h1
    simp at h1; omega
theorem bs_cons (x : UInt8) (t : ByteArray) : (ByteArray.mk #[x] ++ t).data.toList = x :: t.data.toList := by simp
theorem ba_ext {a b : ByteArray} (h : a.data.toList = b.data.toList) : a = b := by
  cases a; cases b
  simp only [ByteArray.mk.injEq]
  exact Array.toList_inj.1 h
set_option maxHeartbeats 1000000 in
theorem reftextN_any (n : Nat) (w : World) (hn : n ≤ 9223372036854775807) :
    Calls Tryz.prog 40 #[.int .i64 n] w fun e w' => e = .returned (.string ⟨(Lib.decDigits n).toArray⟩) ∧ w = w' := by
  have hlen := dec_len n (by omega)
  have hl : ((n : Int) == -9223372036854775808) = false := by rw [beq_eq_false_iff_ne]; omega
  go_enter Tryz.func40, Tryz.ntmps40
  go_wp2_with fail
  go_loop [0, 3] (fun x s => ∃ (X : Nat) (t : ByteArray), x = .int .i64 X ∧ s = .string t ∧ Lib.decDigits n = Lib.decDigits X ++ t.data.toList ∧ X ≤ n) (fun x _ => (intOf x).toNat)
  case atStart => exact ⟨n, ⟨#[]⟩, rfl, rfl, by simp, Nat.le_refl _⟩
  case round =>
    obtain ⟨X, t, rfl, rfl, hT, hXn⟩ := hrel
    have hsz : t.size ≤ 22 := by
      have q1 := congrArg List.length hT
      rw [List.length_append] at q1
      have q2 : t.data.toList.length = t.size := Array.length_toList
      omega
    have HT := Lib.hid hT
    have HL := Lib.hid hlen
    clear hT hlen
    have e1 : ((X : Int).tmod 10) = ((X % 10 : Nat) : Int) := by rw [Int.tmod_eq_emod_of_nonneg (by omega)]; omega
    have e2 : ((X : Int).tdiv 10) = ((X / 10 : Nat) : Int) := by rw [Int.tdiv_eq_ediv_of_nonneg (by omega)]; omega
    by_cases h9 : 9 < X
    · have hd := digit_at (X % 10) (by omega)
      go_wp2_with fail
      case roundEnd =>
        refine ⟨⟨X / 10, _, by go_num, rfl, ?_, by omega⟩, ?_⟩
        · rw [bs_cons, HT.out, dec_step X h9, List.append_assoc, dig_add _ (by omega)]
          rfl
        · simp [intOf]; omega
    · have hd := digit_at X (by omega)
      go_wp2_with fail
      go_ret
      refine ⟨?_, rfl⟩
      refine congrArg (fun x => Ending.returned (.string x)) (ba_ext ?_)
      rw [bs_cons]
      have h := HT.out
      rw [Lib.decDigits.eq_def X, dif_pos (by omega)] at h
      rw [dig_add _ (by omega)] at h
      simp only [List.cons_append, List.nil_append] at h
      exact h.symm
theorem itoa_least : Lib.itoa (-9223372036854775808) = [45, 57, 50, 50, 51, 51, 55, 50, 48, 51, 54, 56, 53, 52, 55, 55, 53, 56, 48, 56] := by
  have h := Lib.itoa_neg 9223372036854775808 (by decide)
  rw [show (-((9223372036854775808 : Nat) : Int)) = -9223372036854775808 from rfl] at h
  rw [h]
  simp [Lib.decDigits]
set_option maxHeartbeats 1000000 in
theorem reftextZ_any (n : Int) (w : World) (hn : InR n) :
    Calls Tryz.prog 40 #[.int .i64 n] w fun e w' => e = .returned (.string ⟨(Lib.itoa n).toArray⟩) ∧ w = w' := by
  obtain ⟨h1, h2⟩ := hn
  by_cases hn0 : n < 0
  · by_cases hl : n = -9223372036854775808
    · subst hl
      rw [itoa_least]
      go_enter Tryz.func40, Tryz.ntmps40
      go_wp2_with fail
      go_ret
      exact ⟨rfl, rfl⟩
    · obtain ⟨m, rfl⟩ : ∃ m : Nat, n = -(m : Int) := ⟨n.natAbs, by omega⟩
      have hlb : (-(m : Int) == -9223372036854775808) = false := by rw [beq_eq_false_iff_ne]; exact hl
      have hw : wrap64 (- -(m : Int)) = (m : Int) := by rw [Int.neg_neg]; exact wrap64_of (by omega) (by omega)
      have hw2 : wrap64 (m : Int) = (m : Int) := wrap64_of (by omega) (by omega)
      have hlen := dec_len m (by omega)
      rw [Lib.itoa_neg m (by omega)]
      obtain ⟨z, hz⟩ : ∃ z, z = -(m : Int) := ⟨_, rfl⟩
      have hzw : wrap64 (-z) = (m : Int) := by rw [hz]; exact hw
      have hzb : (z == -9223372036854775808) = false := by rw [hz]; exact hlb
      have hzn : z < 0 := by omega
      have HK := Lib.hid (reftextN_any m w (by omega))
      rw [← hz]
      clear hz hw hlb hl hn0
      go_enter Tryz.func40, Tryz.ntmps40
      go_wp2_with fail
      refine HK.out.mono ?_
      rintro e w' ⟨rfl, rfl⟩
      go_wp2_with fail
      go_ret
      exact ⟨congrArg (fun x => Ending.returned (.string x)) (ba_ext (by simp)), rfl⟩
  · obtain ⟨m, rfl⟩ : ∃ m : Nat, n = (m : Int) := ⟨n.toNat, by omega⟩
    rw [Lib.itoa_nonneg]
    exact reftextN_any m w (by omega)

/-! ### Reading a numeral -/
theorem bsl_size0 {d : ByteArray} (h : d.size = 0) : bsl d = [] := by
  have := bsl_length d
  rw [h] at this
  exact List.eq_nil_of_length_eq_zero this
def pzE : Option Int → Int × Int
  | some v => (v, 0)
  | none => (0, 17)
theorem refP_no (l : List UInt8) (h : body l = [] ∨ (body l).all Lx.isDigit = false) : refP l = (0, 3) := by
  have : digs l = false := by
    unfold digs
    rcases h with h | h
    · rw [h]; rfl
    · rw [h, Bool.and_false]
  unfold refP
  rw [this]
  rfl
theorem refP_yes (l : List UInt8) (h1 : body l ≠ []) (h2 : ∀ c ∈ body l, Lx.isDigit c = true) : refP l = pzE (pz (l.head? == some 45) 0 (body l)) := by
  have : digs l = true := by
    unfold digs
    rw [List.all_eq_true.2 h2]
    cases hb : body l with
    | nil => exact absurd hb h1
    | cons a r => rfl
  unfold refP
  rw [this]
  cases pz (l.head? == some 45) 0 (body l) <;> rfl
def tup2 (p : Int × Int) : Value := .tuple #[.int .i64 p.1, .int .i64 p.2]
set_option maxHeartbeats 4000000 in
theorem refparseZ_any (s : ByteArray) (w : World) (hs : s.size ≤ 4000) :
    Calls Tryz.prog 38 #[.string s] w fun e w' => e = .returned (tup2 (refP (bsl s))) ∧ w = w' := by
  by_cases h45 : (bsl s).head? = some 45
  · have h0 : 0 < s.size := by
      rw [← bsl_length]
      cases hb : bsl s with
      | nil => rw [hb] at h45; cases h45
      | cons a r => simp
    have hc : (s[0]'h0) = 45 := by
      have := bsl_get s 0 h0
      rw [← List.head?_eq_getElem?, h45] at this
      exact (Option.some.inj this).symm
    have hcb : (((s[0]'h0).toNat : Int) == 45) = true := by rw [hc]; rfl
    have hb : body (bsl s) = bsl (s.extract 1 s.size) := by
      unfold body
      rw [if_pos h45]
      simp only [bsl, ByteArray.data_extract, Array.toList_extract, List.extract_eq_take_drop, List.drop_one]
      rw [List.take_of_length_le]
      rw [List.length_tail, Array.length_toList]
      exact Nat.le_refl _
    have hne : ∀ _ : bsl (s.extract 1 s.size) = [] ∨ (bsl (s.extract 1 s.size)).all Lx.isDigit = false, refP (bsl s) = (0, 3) := fun h => refP_no _ (by rw [hb]; exact h)
    have hyes : bsl (s.extract 1 s.size) ≠ [] → (∀ c ∈ bsl (s.extract 1 s.size), Lx.isDigit c = true) → refP (bsl s) = pzE (pz true 0 (bsl (s.extract 1 s.size))) := fun h1 h2 => by
      rw [refP_yes (bsl s) (by rw [hb]; exact h1) (by rw [hb]; exact h2), hb, h45]
      rfl
    have hsz : (s.extract 1 s.size).size ≤ 4000 := by simp; omega
    obtain ⟨d, hd⟩ : ∃ d, d = s.extract 1 s.size := ⟨_, rfl⟩
    rw [← hd] at hne hyes hsz
    generalize refP (bsl s) = R at hne hyes ⊢
    have HNE := Lib.hid hne
    obtain ⟨neg, hneg⟩ : ∃ neg : Bool, neg = true := ⟨_, rfl⟩
    have HYes := Lib.hid (show bsl d ≠ [] → (∀ c ∈ bsl d, Lx.isDigit c = true) → R = pzE (pz neg 0 (bsl d)) by rw [hneg]; exact hyes)
    clear hb hc hne hyes h45
    unfold tup2
    go_enter Tryz.func38, Tryz.ntmps38
    go_wp2_with fail
    rw [← hd]
    clear hd
    go_wp2_with fail
    go_loop [5] (fun i => ∃ k : Nat, k ≤ d.size ∧ i = .int .i64 k ∧ ∀ j, (h : j < d.size) → j < k → Lx.isDigit (d[j]'h) = true) (fun i => d.size - (intOf i).toNat)
    case atStart => exact ⟨0, Nat.zero_le _, rfl, fun j _ h => by omega⟩
    case round =>
      obtain ⟨k, hk, rfl, hall⟩ := hrel
      have HAll := Lib.hid hall
      clear hall
      by_cases hlt : k < d.size
      · by_cases hc : Lx.isDigit (d[k]'hlt) = true
        · obtain ⟨d1, d2⟩ := (isDigit_iff _).1 hc
          have HC := Lib.hid hc
          clear hc
          go_wp2_with fail
          go_round
          case rel => exact ⟨k + 1, by omega, by go_num, fun j hj hjk => by
            by_cases e : j = k
            · subst e; exact HC.out
            · exact HAll.out j hj (by omega)⟩
          case measure => simp [intOf]; omega
        · have hno : (bsl d).all Lx.isDigit = false := by
            rw [Bool.eq_false_iff]
            intro h
            exact hc (List.all_eq_true.1 h _ (List.mem_of_getElem? (bsl_get d k hlt)))
          have hcd : ¬ (48 ≤ (d[k]'hlt).toNat ∧ (d[k]'hlt).toNat ≤ 57) := fun h => hc ((isDigit_iff _).2 h)
          have HNo := Lib.hid (HNE.out (.inr hno))
          clear hc hno
          by_cases h48 : (d[k]'hlt).toNat < 48
          · clear hcd
            go_wp2_with fail
            go_ret2
            exact ⟨by rw [HNo.out]; rfl, rfl⟩
          · have h57 : 57 < (d[k]'hlt).toNat := by omega
            clear hcd
            go_wp2_with fail
            go_ret2
            exact ⟨by rw [HNo.out]; rfl, rfl⟩
      · by_cases h0 : d.size = 0
        · have hemp : (d.toList == []) = true := by
            rw [ByteArray.toList_eq, beq_iff_eq]
            exact bsl_size0 h0
          have HNo := Lib.hid (HNE.out (.inl (bsl_size0 h0)))
          go_wp2_with fail
          go_ret2
          exact ⟨by rw [HNo.out]; rfl, rfl⟩
        · have hemp : (d.toList == []) = false := by
            rw [ByteArray.toList_eq, beq_eq_false_iff_ne]
            intro h
            have := bsl_length d
            rw [bsl, h] at this
            simp at this
            omega
          have hdig : ∀ c ∈ bsl d, Lx.isDigit c = true := fun c hc => by
            obtain ⟨j, hj, he⟩ := List.mem_iff_getElem.1 hc
            have hj2 : j < d.size := by rw [← bsl_length]; exact hj
            have := bsl_get d j hj2
            rw [List.getElem?_eq_getElem hj] at this
            rw [← he, Option.some.inj this]
            exact HAll.out j hj2 (by omega)
          have HRes := Lib.hid (HYes.out (fun e => h0 (by rw [← bsl_length, e]; rfl)) hdig)
          have HDig := Lib.hid (fun j (hj : j < d.size) => (isDigit_iff _).1 (hdig _ (List.mem_of_getElem? (bsl_get d j hj))))
          clear hdig
          go_wp2_with fail
          go_loop [6, 7] (fun x i => ∃ (m : Nat) (X : Int), m ≤ d.size ∧ i = .int .i64 m ∧ x = .int .i64 X ∧ InR X ∧ pz neg 0 (bsl d) = pz neg X ((bsl d).drop m)) (fun _ i => d.size - (intOf i).toNat)
          case atStart => exact ⟨0, 0, Nat.zero_le _, rfl, rfl, by unfold InR; decide, by simp⟩
          case round =>
            obtain ⟨m, X, hm, rfl, rfl, hX, hpz⟩ := hrel
            have HX := Lib.hid hX
            obtain ⟨hX1, hX2⟩ := hX
            by_cases hmt : m < d.size
            · obtain ⟨d1, d2⟩ := HDig.out m hmt
              rw [bsl_dropZ d m hmt, pz] at hpz
              have HP := Lib.hid hpz
              clear hpz
              obtain ⟨D, hD⟩ : ∃ D : Int, D = (if neg = true then -(((d[m]'hmt).toNat : Int) - 48) else ((d[m]'hmt).toNat : Int) - 48) := ⟨_, rfl⟩
              rw [← hD] at HP
              have hDr : -9 ≤ D ∧ D ≤ 9 := by rw [hD]; split <;> omega
              have hDw : -(((d[m]'hmt).toNat : Int) - 48) = D := by
                rw [hD, hneg, if_pos rfl]
              clear hD
              by_cases hmul : InR (X * 10)
              · have HI := Lib.hid hmul
                obtain ⟨hm1, hm2⟩ := hmul
                by_cases hadd : InR (X * 10 + D)
                · have HJ := Lib.hid hadd
                  clear hadd
                  go_wp2_with fail
                  refine (refmulZ_any X w HX.out).mono ?_
                  rintro e w' ⟨rfl, rfl⟩
                  rw [if_pos HI.out]
                  go_wp2_with fail
                  skip
                  refine (refadd_any _ _ w (by omega) (by omega)).mono ?_
                  rintro e w' ⟨rfl, rfl⟩
                  rw [if_pos (show -9223372036854775808 ≤ X * 10 + D ∧ X * 10 + D ≤ 9223372036854775807 from HJ.out)]
                  go_wp2_with fail
                  go_round
                  case rel =>
                    have hp := HP.out
                    rw [if_pos HI.out, if_pos HJ.out] at hp
                    exact ⟨m + 1, X * 10 + D, by omega, by go_num, rfl, HJ.out, hp⟩
                  case measure => simp [intOf]; omega
                · have HJ := Lib.hid hadd
                  clear hadd
                  go_wp2_with fail
                  refine (refmulZ_any X w HX.out).mono ?_
                  rintro e w' ⟨rfl, rfl⟩
                  rw [if_pos HI.out]
                  go_wp2_with fail
                  skip
                  refine (refadd_any _ _ w (by omega) (by omega)).mono ?_
                  rintro e w' ⟨rfl, rfl⟩
                  rw [if_neg (show ¬ (-9223372036854775808 ≤ X * 10 + D ∧ X * 10 + D ≤ 9223372036854775807) from HJ.out)]
                  go_wp2_with fail
                  go_ret2
                  have hp := HP.out
                  rw [if_pos HI.out, if_neg HJ.out] at hp
                  exact ⟨by rw [HRes.out, hp]; rfl, rfl⟩
              · have HI := Lib.hid hmul
                clear hmul
                go_wp2_with fail
                refine (refmulZ_any X w HX.out).mono ?_
                rintro e w' ⟨rfl, rfl⟩
                rw [if_neg HI.out]
                go_wp2_with fail
                go_ret2
                have hp := HP.out
                rw [if_neg HI.out] at hp
                exact ⟨by rw [HRes.out, hp]; rfl, rfl⟩
            · rw [List.drop_eq_nil_of_le (by rw [bsl_length]; omega), pz] at hpz
              have HP := Lib.hid hpz
              clear hpz
              go_wp2_with fail
              go_ret2
              exact ⟨by rw [HRes.out, HP.out]; rfl, rfl⟩
  · obtain ⟨d, hd⟩ : ∃ d, d = s := ⟨_, rfl⟩
    have hb : body (bsl s) = bsl d := by
      unfold body
      rw [if_neg h45, hd]
    have hh : ((bsl s).head? == some 45) = false := by rw [beq_eq_false_iff_ne]; exact h45
    have hne : ∀ _ : bsl d = [] ∨ (bsl d).all Lx.isDigit = false, refP (bsl s) = (0, 3) := fun h => refP_no _ (by rw [hb]; exact h)
    have hyes : bsl d ≠ [] → (∀ c ∈ bsl d, Lx.isDigit c = true) → refP (bsl s) = pzE (pz false 0 (bsl d)) := fun h1 h2 => by
      rw [refP_yes (bsl s) (by rw [hb]; exact h1) (by rw [hb]; exact h2), hb, hh]
    have hsz : d.size ≤ 4000 := by rw [hd]; exact hs
    have hfst : ∀ h : 0 < d.size, (((d[0]'h).toNat : Int) == 45) = false := fun h => by
      rw [beq_eq_false_iff_ne]
      intro e
      refine h45 ?_
      rw [← hd, List.head?_eq_getElem?, bsl_get d 0 h]
      congr 1
      rw [← UInt8.toNat_inj]
      exact (by omega : (d[0]'h).toNat = 45)
    generalize refP (bsl s) = R at hne hyes ⊢
    subst hd
    have HNE := Lib.hid hne
    obtain ⟨neg, hneg⟩ : ∃ neg : Bool, neg = false := ⟨_, rfl⟩
    have HYes := Lib.hid (show bsl d ≠ [] → (∀ c ∈ bsl d, Lx.isDigit c = true) → R = pzE (pz neg 0 (bsl d)) by rw [hneg]; exact hyes)
    clear hb hne hyes h45 hh
    unfold tup2
    by_cases hpos : 0 < d.size
    · have hcb := hfst hpos
      clear hfst
      go_enter Tryz.func38, Tryz.ntmps38
      go_wp2_with fail
      go_loop [5] (fun i => ∃ k : Nat, k ≤ d.size ∧ i = .int .i64 k ∧ ∀ j, (h : j < d.size) → j < k → Lx.isDigit (d[j]'h) = true) (fun i => d.size - (intOf i).toNat)
      case atStart => exact ⟨0, Nat.zero_le _, rfl, fun j _ h => by omega⟩
      case round =>
        obtain ⟨k, hk, rfl, hall⟩ := hrel
        have HAll := Lib.hid hall
        clear hall
        by_cases hlt : k < d.size
        · by_cases hc : Lx.isDigit (d[k]'hlt) = true
          · obtain ⟨d1, d2⟩ := (isDigit_iff _).1 hc
            have HC := Lib.hid hc
            clear hc
            go_wp2_with fail
            go_round
            case rel => exact ⟨k + 1, by omega, by go_num, fun j hj hjk => by
              by_cases e : j = k
              · subst e; exact HC.out
              · exact HAll.out j hj (by omega)⟩
            case measure => simp [intOf]; omega
          · have hno : (bsl d).all Lx.isDigit = false := by
              rw [Bool.eq_false_iff]
              intro h
              exact hc (List.all_eq_true.1 h _ (List.mem_of_getElem? (bsl_get d k hlt)))
            have hcd : ¬ (48 ≤ (d[k]'hlt).toNat ∧ (d[k]'hlt).toNat ≤ 57) := fun h => hc ((isDigit_iff _).2 h)
            have HNo := Lib.hid (HNE.out (.inr hno))
            clear hc hno
            by_cases h48 : (d[k]'hlt).toNat < 48
            · clear hcd
              go_wp2_with fail
              go_ret2
              exact ⟨by rw [HNo.out]; rfl, rfl⟩
            · have h57 : 57 < (d[k]'hlt).toNat := by omega
              clear hcd
              go_wp2_with fail
              go_ret2
              exact ⟨by rw [HNo.out]; rfl, rfl⟩
        · by_cases h0 : d.size = 0
          · exfalso; omega
          · have hemp : (d.toList == []) = false := by
              rw [ByteArray.toList_eq, beq_eq_false_iff_ne]
              intro h
              have := bsl_length d
              rw [bsl, h] at this
              simp at this
              omega
            have hdig : ∀ c ∈ bsl d, Lx.isDigit c = true := fun c hc => by
              obtain ⟨j, hj, he⟩ := List.mem_iff_getElem.1 hc
              have hj2 : j < d.size := by rw [← bsl_length]; exact hj
              have := bsl_get d j hj2
              rw [List.getElem?_eq_getElem hj] at this
              rw [← he, Option.some.inj this]
              exact HAll.out j hj2 (by omega)
            have HRes := Lib.hid (HYes.out (fun e => h0 (by rw [← bsl_length, e]; rfl)) hdig)
            have HDig := Lib.hid (fun j (hj : j < d.size) => (isDigit_iff _).1 (hdig _ (List.mem_of_getElem? (bsl_get d j hj))))
            clear hdig
            go_wp2_with fail
            go_loop [6, 7] (fun x i => ∃ (m : Nat) (X : Int), m ≤ d.size ∧ i = .int .i64 m ∧ x = .int .i64 X ∧ InR X ∧ pz neg 0 (bsl d) = pz neg X ((bsl d).drop m)) (fun _ i => d.size - (intOf i).toNat)
            case atStart => exact ⟨0, 0, Nat.zero_le _, rfl, rfl, by unfold InR; decide, by simp⟩
            case round =>
              obtain ⟨m, X, hm, rfl, rfl, hX, hpz⟩ := hrel
              have HX := Lib.hid hX
              obtain ⟨hX1, hX2⟩ := hX
              by_cases hmt : m < d.size
              · obtain ⟨d1, d2⟩ := HDig.out m hmt
                rw [bsl_dropZ d m hmt, pz] at hpz
                have HP := Lib.hid hpz
                clear hpz
                obtain ⟨D, hD⟩ : ∃ D : Int, D = (if neg = true then -(((d[m]'hmt).toNat : Int) - 48) else ((d[m]'hmt).toNat : Int) - 48) := ⟨_, rfl⟩
                rw [← hD] at HP
                have hDr : -9 ≤ D ∧ D ≤ 9 := by rw [hD]; split <;> omega
                have hDw : ((d[m]'hmt).toNat : Int) - 48 = D := by
                  rw [hD, hneg, if_neg (by decide)]
                clear hD
                by_cases hmul : InR (X * 10)
                · have HI := Lib.hid hmul
                  obtain ⟨hm1, hm2⟩ := hmul
                  by_cases hadd : InR (X * 10 + D)
                  · have HJ := Lib.hid hadd
                    clear hadd
                    go_wp2_with fail
                    refine (refmulZ_any X w HX.out).mono ?_
                    rintro e w' ⟨rfl, rfl⟩
                    rw [if_pos HI.out]
                    go_wp2_with fail
                    skip
                    refine (refadd_any _ _ w (by omega) (by omega)).mono ?_
                    rintro e w' ⟨rfl, rfl⟩
                    rw [if_pos (show -9223372036854775808 ≤ X * 10 + D ∧ X * 10 + D ≤ 9223372036854775807 from HJ.out)]
                    go_wp2_with fail
                    go_round
                    case rel =>
                      have hp := HP.out
                      rw [if_pos HI.out, if_pos HJ.out] at hp
                      exact ⟨m + 1, X * 10 + D, by omega, by go_num, rfl, HJ.out, hp⟩
                    case measure => simp [intOf]; omega
                  · have HJ := Lib.hid hadd
                    clear hadd
                    go_wp2_with fail
                    refine (refmulZ_any X w HX.out).mono ?_
                    rintro e w' ⟨rfl, rfl⟩
                    rw [if_pos HI.out]
                    go_wp2_with fail
                    skip
                    refine (refadd_any _ _ w (by omega) (by omega)).mono ?_
                    rintro e w' ⟨rfl, rfl⟩
                    rw [if_neg (show ¬ (-9223372036854775808 ≤ X * 10 + D ∧ X * 10 + D ≤ 9223372036854775807) from HJ.out)]
                    go_wp2_with fail
                    go_ret2
                    have hp := HP.out
                    rw [if_pos HI.out, if_neg HJ.out] at hp
                    exact ⟨by rw [HRes.out, hp]; rfl, rfl⟩
                · have HI := Lib.hid hmul
                  clear hmul
                  go_wp2_with fail
                  refine (refmulZ_any X w HX.out).mono ?_
                  rintro e w' ⟨rfl, rfl⟩
                  rw [if_neg HI.out]
                  go_wp2_with fail
                  go_ret2
                  have hp := HP.out
                  rw [if_neg HI.out] at hp
                  exact ⟨by rw [HRes.out, hp]; rfl, rfl⟩
              · rw [List.drop_eq_nil_of_le (by rw [bsl_length]; omega), pz] at hpz
                have HP := Lib.hid hpz
                clear hpz
                go_wp2_with fail
                go_ret2
                exact ⟨by rw [HRes.out, HP.out]; rfl, rfl⟩
    · have hz : d.size = 0 := by omega
      clear hfst
      have hemp : (d.toList == []) = true := by
        rw [ByteArray.toList_eq, beq_iff_eq]
        exact bsl_size0 hz
      have HNo := Lib.hid (HNE.out (.inl (bsl_size0 hz)))
      go_enter Tryz.func38, Tryz.ntmps38
      go_wp2_with fail
      refine wp_loop_rounds 1 ?_
      rw [rounds_succ]
      go_wp2_with fail
      go_ret2
      exact ⟨by rw [HNo.out]; rfl, rfl⟩
end Go.Proofs.YtbdaebjpgdpcnaaGreatDoor
