import Derived.Test.YtcgbpmeadohbkaaGreatDoorPar
import Derived.Test.YtcgbpmeadohbkaaGreatDoorRefA
namespace Go.Proofs.YtcgbpmeadohbkaaGreatDoor
open Go.RowKit Go.Shelf
set_option maxRecDepth 100000
def wordCells : Array Value := (Lx.words.map fun l => Value.string ⟨l.toArray⟩).toArray
theorem refwords_any (w : World) :
 Calls Tryz.prog 199 #[] w fun e w' => e = .returned (.slice (some ⟨w.heap.size, 0, none⟩) 48 48) ∧ Blk w' w.heap.size wordCells 9 ∧ Below w.heap.size w w' := by
 go_enter Tryz.func199, Tryz.ntmps199
 go_wp2_with fail
 go_ret
 refine ⟨rfl, ?_, by go_grown⟩
 exact Blk.new w wordCells 9 rfl
theorem words_len : Lx.words.length = 48 := by decide
theorem wordCells_at {k : Nat} {l : List UInt8} (h : Lx.words[k]? = some l) : wordCells[k]? = some (.string ⟨l.toArray⟩) := by
 simp [wordCells, h]
set_option maxHeartbeats 1000000 in
theorem refisword_any (s : ByteArray) (w : World) :
 Calls Tryz.prog 139 #[.string s] w fun e w' => e = .returned (.bool (Lx.isWord (bsl s))) ∧ Below w.heap.size w w' := by
 go_enter Tryz.func139, Tryz.ntmps139
 go_wp2_with fail
 refine (refwords_any w).mono ?_
 rintro e w1 ⟨rfl, hblk, hbel⟩
 have HB := Lib.hid hbel
 have HK := Lib.hid hblk
 clear hbel hblk
 go_wp2_with fail
 go_loop [4] (fun i => ∃ k : Nat, i = .int .i64 k ∧ k ≤ 48 ∧ ∀ j, j < k → Lx.words[j]? ≠ some (bsl s)) (fun i => 48 - (intOf i).toNat)
 case atStart => exact ⟨0, rfl, Nat.zero_le _, fun j h => absurd h (Nat.not_lt_zero _)⟩
 case round =>
  obtain ⟨k, rfl, hk, hno⟩ := hrel
  have HN := Lib.hid hno
  clear hno
  by_cases hlt : k < 48
  ·obtain ⟨l, hl⟩ : ∃ l, Lx.words[k]? = some l := ⟨_, List.getElem?_eq_getElem (by rw [words_len]; exact hlt)⟩
   have hc := (HK.out.cell k).trans (wordCells_at hl)
   have hcmp := bytes_ne (a := l) (s := s)
   have HL := Lib.hid hl
   clear hl
   by_cases he : l = bsl s
   ·rw [decide_eq_true he] at hcmp
    have HE := Lib.hid he
    clear he
    go_wp2_with fail
    go_ret
    refine ⟨ret_bool ?_, HB.out⟩
    rw [Lx.isWord, ← HE.out]
    exact (List.contains_iff_mem.2 (List.mem_of_getElem? HL.out)).symm
   ·rw [decide_eq_false he] at hcmp
    have HE := Lib.hid he
    clear he
    go_wp2_with fail
    go_round
    case rel =>
     refine ⟨k + 1, by go_num, by omega, fun j hj => ?_⟩
     rcases Nat.lt_or_ge j k with h | h
     ·exact HN.out j h
     ·obtain rfl : j = k := by omega
      rw [HL.out]
      exact fun h => HE.out (Option.some.inj h)
    case measure => simp [intOf]; omega
  ·go_wp2_with fail
   go_ret
   refine ⟨ret_bool ?_, HB.out⟩
   symm
   rw [Lx.isWord, Bool.eq_false_iff]
   intro h
   obtain ⟨j, hj⟩ := List.mem_iff_getElem?.1 (List.contains_iff_mem.1 h)
   have hj2 : j < 48 := by rw [← words_len]; exact (List.getElem?_eq_some_iff.1 hj).1
   exact HN.out j (by omega) hj
def refOp (l : List UInt8) : List UInt8 :=
 if Lx.ops2.contains (l.take 2) then l.take 2 else if Lx.ops1.contains (l.headD 0) then l.take 1 else []
theorem ext2 {s : ByteArray} {x : List UInt8} (h : (bsl s).take 2 = x) : s.extract 0 2 = ⟨x.toArray⟩ := by
 rw [Lib.extract_upto, ← h]; rfl
theorem ext2_ne {s : ByteArray} {x : List UInt8} (h : (bsl s).take 2 ≠ x) : ((s.extract 0 2).toList == x) = false := by
 rw [ext2 rfl, ByteArray.toList_eq, beq_eq_false_iff_ne]
 exact h
theorem extR1 {s : ByteArray} (h0 : 0 < s.size) : s.extract 0 1 = ⟨[s[0]'h0].toArray⟩ := by
 have hd := bsl_drop_cons s 0 h0
 rw [List.drop_zero, bsl] at hd
 rw [Lib.extract_upto, hd]
 rfl
theorem refOp_miss {s : ByteArray} (h0 : 0 < s.size) (h : Lx.ops2.contains ((bsl s).take 2) = false) : refOp (bsl s) = if Lx.ops1.contains (s[0]'h0) then [s[0]'h0] else [] := by
 have hd := bsl_drop_cons s 0 h0
 rw [List.drop_zero] at hd
 rw [refOp, h, hd]
 rfl
set_option maxHeartbeats 4000000 in
theorem refop_any (s : ByteArray) (w : World) (hs : s.size ≤ maxLen) (h0 : 0 < s.size) :
 Calls Tryz.prog 142 #[.string s] w fun e w' => e = .returned (.string ⟨(refOp (bsl s)).toArray⟩) ∧ w = w' := by
 unfold maxLen at hs
 cases hm : Lx.ops2.contains ((bsl s).take 2)
 ·have HM := Lib.hid (refOp_miss h0 hm)
  have hne : ∀ x ∈ Lx.ops2, (bsl s).take 2 ≠ x := by
   intro x hx e
   rw [e, ← Bool.not_eq_true] at hm
   exact hm (List.contains_iff_mem.2 hx)
  clear hm
  have f0 := ext2_ne (hne [60, 62] (by decide))
  have f1 := ext2_ne (hne [60, 61] (by decide))
  have f2 := ext2_ne (hne [62, 61] (by decide))
  have f3 := ext2_ne (hne [60, 60] (by decide))
  have f4 := ext2_ne (hne [62, 62] (by decide))
  have f5 := ext2_ne (hne [124, 124] (by decide))
  clear hne
  have hx := extR1 h0
  cases h1 : Lx.ops1.contains (s[0]'h0)
  ·have hne : ∀ x ∈ Lx.ops1, ((((s[0]'h0).toNat : Nat) : Int) == ((x.toNat : Nat) : Int)) = false := by
    intro x hx
    rw [beq_eq_false_iff_ne]
    intro e
    have : s[0]'h0 = x := by rw [← UInt8.toNat_inj]; omega
    rw [this, ← Bool.not_eq_true] at h1
    exact h1 (List.contains_iff_mem.2 hx)
   have H1 := Lib.hid h1
   clear h1 hx
   have g0 : ((((s[0]'h0).toNat : Nat) : Int) == 40) = false := hne 40 (by decide)
   have g1 : ((((s[0]'h0).toNat : Nat) : Int) == 41) = false := hne 41 (by decide)
   have g2 : ((((s[0]'h0).toNat : Nat) : Int) == 44) = false := hne 44 (by decide)
   have g3 : ((((s[0]'h0).toNat : Nat) : Int) == 46) = false := hne 46 (by decide)
   have g4 : ((((s[0]'h0).toNat : Nat) : Int) == 59) = false := hne 59 (by decide)
   have g5 : ((((s[0]'h0).toNat : Nat) : Int) == 42) = false := hne 42 (by decide)
   have g6 : ((((s[0]'h0).toNat : Nat) : Int) == 61) = false := hne 61 (by decide)
   have g7 : ((((s[0]'h0).toNat : Nat) : Int) == 60) = false := hne 60 (by decide)
   have g8 : ((((s[0]'h0).toNat : Nat) : Int) == 62) = false := hne 62 (by decide)
   have g9 : ((((s[0]'h0).toNat : Nat) : Int) == 43) = false := hne 43 (by decide)
   have g10 : ((((s[0]'h0).toNat : Nat) : Int) == 45) = false := hne 45 (by decide)
   have g11 : ((((s[0]'h0).toNat : Nat) : Int) == 47) = false := hne 47 (by decide)
   have g12 : ((((s[0]'h0).toNat : Nat) : Int) == 37) = false := hne 37 (by decide)
   have g13 : ((((s[0]'h0).toNat : Nat) : Int) == 38) = false := hne 38 (by decide)
   have g14 : ((((s[0]'h0).toNat : Nat) : Int) == 124) = false := hne 124 (by decide)
   have g15 : ((((s[0]'h0).toNat : Nat) : Int) == 94) = false := hne 94 (by decide)
   clear hne
   by_cases h2 : 2 ≤ s.size
   all_goals
    go_enter Tryz.func142, Tryz.ntmps142
    go_wp2_with fail
    go_ret
    exact ⟨by rw [HM.out, H1.out]; rfl, rfl⟩
  ·have h1' := h1
   simp [Lx.ops1] at h1'
   have H1 := Lib.hid h1
   clear h1
   by_cases h2 : 2 ≤ s.size
   all_goals
    rcases h1' with h | h | h | h | h | h | h | h | h | h | h | h | h | h | h | h
    all_goals
     have HH := Lib.hid h
     rw [h] at hx
     go_enter Tryz.func142, Tryz.ntmps142
     go_wp2_with fail
     go_ret
     exact ⟨by rw [HM.out, H1.out, HH.out]; rfl, rfl⟩
 ·have e : refOp (bsl s) = (bsl s).take 2 := by rw [refOp, hm]; rfl
  have hm' := List.contains_iff_mem.1 hm
  have h2 : 2 ≤ s.size := by
   rw [← bsl_length]
   rcases Nat.lt_or_ge (bsl s).length 2 with h | h
   ·exfalso
    have hl : ((bsl s).take 2).length < 2 := by rw [List.length_take]; omega
    simp [Lx.ops2] at hm'
    rcases hm' with h | h | h | h | h | h <;> (rw [h] at hl; simp at hl)
   ·exact h
  rw [e]
  clear e hm
  simp [Lx.ops2] at hm'
  rcases hm' with h | h | h | h | h | h
  all_goals
   have hx := ext2 h
   rw [h]
   clear h
   go_enter Tryz.func142, Tryz.ntmps142
   go_wp2_with fail
   go_ret
   exact ⟨rfl, rfl⟩
end Go.Proofs.YtcgbpmeadohbkaaGreatDoor
namespace Go.Proofs.YtcgbpmeadohbkaaGreatDoor
open Go.RowKit Go.Shelf
set_option maxRecDepth 100000
def textV (at_ : Nat) : Option (Nat × List UInt8 × Int × Nat) → Value
 | none => .tuple #[.string ⟨#[]⟩, .int .i64 0, .bool false]
 | some x => .tuple #[.string ⟨x.2.1.toArray⟩, .int .i64 ((at_ + x.2.2.2 : Nat) : Int), .bool true]
theorem ext_one (s : ByteArray) (k : Nat) (h : k < s.size) : s.extract k (k + 1) = ⟨[s[k]'h].toArray⟩ := by
 have hd := bsl_drop_cons s k h
 apply ByteArray.ext
 apply Array.toList_inj.1
 rw [Lib.extract_data]
 show (((bsl s).drop k).take (k + 1 - k)) = _
 rw [hd]
 simp
theorem ba_append (a b : List UInt8) : (ByteArray.mk a.toArray) ++ ⟨b.toArray⟩ = ⟨(a ++ b).toArray⟩ := by
 apply ByteArray.ext; simp
set_option maxHeartbeats 2000000 in
theorem reftext2_any (s : ByteArray) (k : Nat) (w : World) (hs : s.size ≤ 4000) (hk : k < s.size) :
 Calls Tryz.prog 141 #[.string s, .int .i64 k] w fun e w' => e = .returned (textV k (textE ((bsl s).drop k))) ∧ w = w' := by
 go_enter Tryz.func141, Tryz.ntmps141
 go_wp2_with fail
 go_loop [7, 8] (fun o i => ∃ (n : Nat) (acc : List UInt8), i = .int .i64 ((k + n : Nat) : Int) ∧ k + n ≤ s.size + 1 ∧ o = .string ⟨acc.toArray⟩ ∧ TextAt ((bsl s).drop k) acc n) (fun _ i => s.size + 1 - (intOf i).toNat)
 case atStart => exact ⟨1, [], by go_num, by omega, rfl, TextAt.start _⟩
 case round =>
  obtain ⟨n, acc, rfl, hn, rfl, hT⟩ := hrel
  have hle := hT.len
  have HT := Lib.hid hT
  clear hT
  by_cases hlt : k + n < s.size
  ·have hg := bsl_get s (k + n) hlt
   rw [← List.getElem?_drop] at hg
   have HG := Lib.hid hg
   clear hg
   by_cases h39 : s[k + n]'hlt = 39
   ·have HQ := Lib.hid h39
    have e39 : (((s[k + n]'hlt).toNat : Int) != 39) = false := by rw [h39]; rfl
    clear h39
    by_cases hl2 : k + n + 1 < s.size
    ·have hg2 : ((bsl s).drop k)[n + 1]? = some (s[k + n + 1]'hl2) := by
      rw [List.getElem?_drop, ← Nat.add_assoc]
      exact bsl_get s (k + n + 1) hl2
     have HG2 := Lib.hid hg2
     clear hg2
     by_cases h392 : s[k + n + 1]'hl2 = 39
     ·have HQ2 := Lib.hid h392
      have e392 : (((s[k + n + 1]'hl2).toNat : Int) == 39) = true := by rw [h392]; rfl
      clear h392
      go_wp2_with fail
      case roundEnd =>
       refine ⟨⟨n + 2, acc ++ [39], by go_num, by omega, ?_, HT.out.twice (by rw [HG.out, HQ.out]) (by rw [HG2.out, HQ2.out])⟩, by simp [intOf]; omega⟩
       exact congrArg Value.string (ba_append acc [39])
     ·have HQ2 := Lib.hid h392
      have e392 : (((s[k + n + 1]'hl2).toNat : Int) == 39) = false := by
       rw [beq_eq_false_iff_ne]
       intro h
       exact h392 (by rw [← UInt8.toNat_inj]; simpa using (by omega : (s[k + n + 1]'hl2).toNat = 39))
      clear h392
      go_wp2_with fail
      go_ret3
      exact ⟨by rw [HT.out.stop (by rw [HG.out, HQ.out]) (by rw [HG2.out]; exact fun h => HQ2.out (Option.some.inj h))]; rfl, rfl⟩
    ·go_wp2_with fail
     go_ret3
     exact ⟨by rw [HT.out.stop (by rw [HG.out, HQ.out]) (by rw [List.getElem?_eq_none (by rw [List.length_drop, bsl_length]; omega)]; simp)]; rfl, rfl⟩
   ·have HQ := Lib.hid h39
    have e39 : (((s[k + n]'hlt).toNat : Int) != 39) = true := by
     rw [bne_iff_ne]
     intro h
     exact h39 (by rw [← UInt8.toNat_inj]; simpa using (by omega : (s[k + n]'hlt).toNat = 39))
    clear h39
    go_wp2_with fail
    case roundEnd =>
     refine ⟨⟨n + 1, acc ++ [s[k + n]'hlt], by go_num, by omega, ?_, HT.out.plain HG.out HQ.out⟩, by simp [intOf]; omega⟩
     rw [ext_one s (k + n) hlt]
     exact congrArg Value.string (ba_append acc [s[k + n]'hlt])
  ·go_wp2_with fail
   go_ret3
   exact ⟨by rw [HT.out.none (by rw [List.length_drop, bsl_length]; omega)]; rfl, rfl⟩
theorem num_le_take (l : List UInt8) (k : Nat) : Lx.num (l.take k) ≤ Lx.num l := by
 have h := num_append (l.take k) (l.drop k)
 rw [List.take_append_drop] at h
 rw [h]
 have : 1 ≤ 10 ^ (l.drop k).length := Nat.one_le_pow _ _ (by decide)
 have := Nat.le_mul_of_pos_right (Lx.num (l.take k)) this
 omega
theorem num_take_succ {s : ByteArray} {k : Nat} (h : k < s.size) : Lx.num ((bsl s).take (k + 1)) = Lx.num ((bsl s).take k) * 10 + ((s[k]'h).toNat - 48) := by
 rw [List.take_add_one, bsl_get s k h, num_append]
 simp [Lx.num]
def parseV (n : Nat) : Value := if n ≤ 9223372036854775807 then .tuple #[.int .i64 n, .int .i64 0] else .tuple #[.int .i64 0, .int .i64 17]
set_option maxHeartbeats 4000000 in
theorem refparse_any (s : ByteArray) (w : World) (hs : s.size ≤ 4000) (h0 : 0 < s.size) (hd : ∀ c ∈ bsl s, Lx.isDigit c = true) :
 Calls Tryz.prog 136 #[.string s] w fun e w' => e = .returned (parseV (Lx.num (bsl s))) ∧ w = w' := by
 have hdig : ∀ k, (h : k < s.size) → 48 ≤ (s[k]'h).toNat ∧ (s[k]'h).toNat ≤ 57 := by
  intro k h
  have := hd _ (List.mem_of_getElem? (bsl_get s k h))
  simp [Lx.isDigit, UInt8.le_iff_toNat_le] at this
  exact this
 have HD := Lib.hid hdig
 clear hdig hd
 have h45 : (((s[0]'h0).toNat : Int) == 45) = false := by
  have := HD.out 0 h0
  rw [beq_eq_false_iff_ne]; omega
 have hne : (s.toList == []) = false := by
  rw [ByteArray.toList_eq, beq_eq_false_iff_ne]
  intro h
  have := bsl_length s
  rw [bsl, h] at this
  simp at this
  omega
 go_enter Tryz.func136, Tryz.ntmps136
 go_wp2_with fail
 go_loop [5] (fun i => ∃ k : Nat, k ≤ s.size ∧ i = .int .i64 k) (fun i => s.size - (intOf i).toNat)
 case atStart => exact ⟨0, Nat.zero_le _, rfl⟩
 case round =>
  obtain ⟨k, hk, rfl⟩ := hrel
  by_cases hlt : k < s.size
  ·obtain ⟨d1, d2⟩ := HD.out k hlt
   go_wp2_with fail
   go_round
   case rel => exact ⟨k + 1, by omega, by go_num⟩
   case measure => simp [intOf]; omega
  ·go_wp2_with fail
   go_loop [6, 7] (fun x i => ∃ k : Nat, k ≤ s.size ∧ i = .int .i64 k ∧ x = .int .i64 (Lx.num ((bsl s).take k) : Nat) ∧ Lx.num ((bsl s).take k) ≤ 9223372036854775807) (fun _ i => s.size - (intOf i).toNat)
   case atStart => exact ⟨0, Nat.zero_le _, rfl, rfl, by simp [Lx.num]⟩
   case round =>
    obtain ⟨m, hm, rfl, rfl, hfit⟩ := hrel
    by_cases hmt : m < s.size
    ·obtain ⟨d1, d2⟩ := HD.out m hmt
     have HS := Lib.hid (num_take_succ hmt)
     have HM := Lib.hid (num_le_take (bsl s) (m + 1))
     generalize Lx.num ((bsl s).take m) = x at hfit HS ⊢
     by_cases hmul : (x : Int) * 10 ≤ 9223372036854775807
     ·by_cases hadd : (x : Int) * 10 + (((s[m]'hmt).toNat : Int) - 48) ≤ 9223372036854775807
      ·have HI := Lib.hid hmul
       have HJ := Lib.hid hadd
       go_wp2_with fail
       refine (refmul_any _ w (by omega)).mono ?_
       rintro e w' ⟨rfl, rfl⟩
       rw [if_pos HI.out]
       go_wp2_with fail
       refine (refadd_any _ _ w (by omega) (by omega)).mono ?_
       rintro e w' ⟨rfl, rfl⟩
       rw [if_pos ⟨by omega, HJ.out⟩]
       go_wp2_with fail
       go_round
       case rel =>
        have := HS.out
        refine ⟨m + 1, by omega, by go_num, ?_, by omega⟩
        rw [this]
        go_num
       case measure => simp [intOf]; omega
      ·have HI := Lib.hid hmul
       have HJ := Lib.hid hadd
       go_wp2_with fail
       refine (refmul_any _ w (by omega)).mono ?_
       rintro e w' ⟨rfl, rfl⟩
       rw [if_pos HI.out]
       go_wp2_with fail
       refine (refadd_any _ _ w (by omega) (by omega)).mono ?_
       rintro e w' ⟨rfl, rfl⟩
       rw [if_neg (by have := HJ.out; omega)]
       go_wp2_with fail
       go_ret2
       refine ⟨?_, rfl⟩
       have h1 := HS.out
       have h2 := HM.out
       rw [parseV, if_neg (by omega)]; rfl
     ·have HI := Lib.hid hmul
      go_wp2_with fail
      refine (refmul_any _ w (by omega)).mono ?_
      rintro e w' ⟨rfl, rfl⟩
      rw [if_neg (by have := HI.out; omega)]
      go_wp2_with fail
      go_ret2
      refine ⟨?_, rfl⟩
      have h1 := HS.out
      have h2 := HM.out
      rw [parseV, if_neg (by omega)]; rfl
    ·have e : (bsl s).take m = bsl s := List.take_of_length_le (by rw [bsl_length]; omega)
     rw [e] at hfit ⊢
     have HF := Lib.hid hfit
     clear e hfit
     go_wp2_with fail
     go_ret2
     exact ⟨by rw [parseV, if_pos HF.out]; rfl, rfl⟩
end Go.Proofs.YtcgbpmeadohbkaaGreatDoor
